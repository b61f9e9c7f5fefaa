/- lives: a table of one or two columns. give: a recovered error; by the two modes of the frame below. Select: a query bound, or the error; what is given up is recovered. lives: what was read, as a statement. lives: what the statement is bound to. lives. -/
import Derived.Test.YthdmfaepjemopaaGreatDoorQBC
import Derived.Test.YthdmfaepjemopaaGreatDoorQAW
import Derived.Defers
import Derived.Recover
import Derived.Test.YthdmfaepjemopaaGreatDoorQAE
namespace Go.Proofs.YthdmfaepjemopaaGreatDoor
open Go.RowKit

theorem info81 : (Tryz.prog.info? 81).map (fun i => (i.zero, i.size, i.bytes)) = some (some (.agg #[.string ⟨#[]⟩, .int .i64 0, .bool false]), 3, 32) := by kernel_rfl
def colsT (tys : List Int) : List Col := (tys.zip [wA, wB]).map fun p => ⟨p.2, p.1, false⟩
@[reducible] def tbR (nm : ByteArray) (v : Value) : Array Value := #[.string nm, v, .int .i64 1, .int .i64 1, .int .i64 0]
@[reducible] def tbZ : Array Value := #[.string ⟨#[]⟩, .slice none 0 0, .int .i64 0, .int .i64 0, .int .i64 0]
structure TB (w : World) (nm : ByteArray) (v : Value) (k : Nat) (xs : List Value) (W : World) : Prop where
  bx : BX w [.cells tbZ 65, .cells (tbR nm v) 65] W
  own : W.ownsRow (w.heap.size + 2) 81 3 v k xs
theorem TB.keep {w : World} {nm : ByteArray} {v : Value} {k : Nat} {xs : List Value} {W W' : World} (h : TB w nm v k xs W) (hB : Below W.heap.size W W') : TB w nm v k xs W' := ⟨h.bx.keep hB, own_kept h.own hB (Nat.le_refl _)⟩
theorem BX.t5 {w W : World} {bs : List Obj} (h : BX w bs W) (k : Nat) {v0 v1 v2 v3 v4 : Value} {ty : TypeId} (hk : bs[k]? = some (.cells #[v0, v1, v2, v3, v4] ty)) : w.heap.size + k < W.heap.size ∧ W.cell? ⟨w.heap.size + k, 0, none⟩ = some v0 ∧ W.cell? ⟨w.heap.size + k, 1, none⟩ = some v1 ∧ W.cell? ⟨w.heap.size + k, 2, none⟩ = some v2 ∧ W.cell? ⟨w.heap.size + k, 3, none⟩ = some v3 ∧ W.cell? ⟨w.heap.size + k, 4, none⟩ = some v4 ∧ W.frozen? ⟨w.heap.size + k, 0, none⟩ = false ∧ W.frozen? ⟨w.heap.size + k, 1, none⟩ = false ∧ W.frozen? ⟨w.heap.size + k, 2, none⟩ = false ∧ W.frozen? ⟨w.heap.size + k, 3, none⟩ = false ∧ W.frozen? ⟨w.heap.size + k, 4, none⟩ = false := by
  have h1 := h.2 k _ hk
  exact ⟨heap_lt h1, cell_of_row _ _ 0 _ _ _ h1, cell_of_row _ _ 1 _ _ _ h1, cell_of_row _ _ 2 _ _ _ h1, cell_of_row _ _ 3 _ _ _ h1, cell_of_row _ _ 4 _ _ _ h1, frozen_of_row _ _ 0 _ _ h1, frozen_of_row _ _ 1 _ _ h1, frozen_of_row _ _ 2 _ _ h1, frozen_of_row _ _ 3 _ _ h1, frozen_of_row _ _ 4 _ _ h1⟩
theorem BX.set5 {w W : World} {bs : List Obj} {k : Nat} {u0 u1 u2 u3 u4 : Value} {ty : TypeId} {fr : Nat × Nat} (h : BX w bs W) (hk : bs[k]? = some (.cells #[u0, u1, u2, u3, u4] ty fr)) {v0 v1 v2 v3 v4 : Value} : BX w (bs.set k (.cells #[v0, v1, v2, v3, v4] ty fr)) (((((W.setCell ⟨w.heap.size + k, 0, none⟩ v0).setCell ⟨w.heap.size + k, 1, none⟩ v1).setCell ⟨w.heap.size + k, 2, none⟩ v2).setCell ⟨w.heap.size + k, 3, none⟩ v3).setCell ⟨w.heap.size + k, 4, none⟩ v4) := by
  have hl := (List.getElem?_eq_some_iff.1 hk).1
  have h1 := h.set hk 0 v0
  change BX w (bs.set k (.cells #[v0, u1, u2, u3, u4] ty fr)) _ at h1
  have h2 := h1.set (List.getElem?_set_self hl) 1 v1
  rw [List.set_set] at h2
  change BX w (bs.set k (.cells #[v0, v1, u2, u3, u4] ty fr)) _ at h2
  have h3 := h2.set (List.getElem?_set_self hl) 2 v2
  rw [List.set_set] at h3
  change BX w (bs.set k (.cells #[v0, v1, v2, u3, u4] ty fr)) _ at h3
  have h4 := h3.set (List.getElem?_set_self hl) 3 v3
  rw [List.set_set] at h4
  change BX w (bs.set k (.cells #[v0, v1, v2, v3, u4] ty fr)) _ at h4
  have h5 := h4.set (List.getElem?_set_self hl) 4 v4
  rw [List.set_set] at h5
  change BX w (bs.set k (.cells #[v0, v1, v2, v3, v4] ty fr)) _ at h5
  exact h5
theorem res_tb {fn : Func} {i : Nat} (h : fn.results = #[.cell i 65]) {tm : Array Value} {W : World} {eb : Nat} (he : tm[i]?.getD undef = .pointer (some ⟨eb, 0, none⟩)) {u0 u1 u2 u3 u4 : Value} {ty : TypeId} (h2 : W.heap[eb]? = some (.cells #[u0, u1, u2, u3, u4] ty)) :
    (results fn tm).run Tryz.prog W = .ok (.agg #[u0, u1, u2, u3, u4]) W := by
  have b0 := cell_of_row _ _ 0 _ _ _ h2
  have b1 := cell_of_row _ _ 1 _ _ _ h2
  have b2 := cell_of_row _ _ 2 _ _ _ h2
  have b3 := cell_of_row _ _ 3 _ _ _ h2
  have b4 := cell_of_row _ _ 4 _ _ _ h2
  simp [results, h, go_sem, he, b0, b1, b2, b3, b4]
theorem TB.app {w : World} {nm : ByteArray} {v v2 : Value} {k k2 : Nat} {xs xs2 : List Value} {W W1 W2 : World} {O O2 : Obj} (h : TB w nm v k xs W) (hW : W1 = (W.alloc O).alloc O2) (hown : W2.ownsRow (w.heap.size + 2) 81 3 v2 k2 xs2) (hg : W1.grownBy W2 v.ownBlock) : TB w nm v2 k2 xs2 (W2.setCell ⟨w.heap.size + 1, 1, none⟩ v2) := by
  subst hW
  have h2 := ((h.bx.alloc O).alloc O2).grown hg (fun b e => (own_base h.own b e).1)
  exact ⟨h2.set (k := 1) rfl 1 v2, own_far hown (by omega) v2⟩
set_option maxRecDepth 100000 in
set_option maxHeartbeats 16000000 in
theorem mktab_any (nm : ByteArray) (tb c : Nat) (tys : List Int) (w : World) (hn : tys.length ≤ 2) (ht : ∀ (j : Nat) (t : Int), tys[j]? = some t → w.cell? ⟨tb, j, none⟩ = some (.int .i64 t)) (_htb : tb < w.heap.size) :
    Calls Tryz.prog 18 #[.string nm, .slice (some ⟨tb, 0, none⟩) tys.length c] w (fun e w' => ∃ v, e = .returned (.agg (tbR nm v)) ∧ Below w.heap.size w w' ∧ w'.ownsRow w.heap.size 81 3 v tys.length (((colsT tys).take tys.length).map colL).flatten) := by
  have HT := Lib.hid ht
  clear ht
  obtain ⟨n, hnn⟩ : ∃ n, n = tys.length := ⟨_, rfl⟩
  have HN := Lib.hid hnn
  rw [← hnn] at hn ⊢
  clear hnn
  go_enter Tryz.func18, Tryz.ntmps18
  go_wp2_with fail
  go_loopw [6, 7, 12] (fun _ _ z wr => ∃ (k : Nat) (v : Value), k ≤ n ∧ z = .int .i64 k ∧ Hid (TB w nm v k (((colsT tys).take k).map colL).flatten wr)) (fun _ _ z _ => n - (intOf z).toNat)
  case atStart => exact ⟨0, .slice none 0 0, Nat.zero_le _, rfl, Lib.hid ⟨BX.two w _ _, World.ownsRow_nil _ _ _ _⟩⟩
  case round =>
    obtain ⟨k, v, hk, rfl, HB⟩ := hrel
    obtain ⟨wo, rfl⟩ : ∃ wo : World, wo = wr := ⟨_, rfl⟩
    obtain ⟨ib, ib0, ib1, ib2, ib3, ib4, jb0, jb1, jb2, jb3, jb4⟩ := HB.out.bx.t5 1 rfl
    have hq3 : ∀ O O' : Obj, ((wo.alloc O).alloc O').heap[wo.heap.size + 1]? = some O' := fun O O' => by have := heap_alloc_new (wo.alloc O) O'; rwa [World.size_alloc] at this
    by_cases hlt : k < n
    · have hk2 : k = 0 ∨ k = 1 := by omega
      rcases hk2 with rfl | rfl
      · have hg : ∃ t, tys[0]? = some t := ⟨_, List.getElem?_eq_getElem (by have := HN.out; omega)⟩
        obtain ⟨t, htk⟩ := hg
        have q0 := cell_kept (HT.out 0 t htk) HB.out.bx.below
        have hltn : ((0 : Int) < (n : Int)) = True := eq_true (by omega)
        have hcv := one_text wo 97 97 rfl
        have HNEXT := Lib.hid (show (((colsT tys).take (0 + 1)).map colL).flatten = (((colsT tys).take 0).map colL).flatten ++ [.string wA, .int .i64 t, .bool false] from by
          rw [List.take_add_one]
          have hz : (tys.zip [wA, wB])[0]? = some (t, wA) := List.getElem?_zip_eq_some.2 ⟨htk, rfl⟩
          have : (colsT tys)[0]? = some ⟨wA, t, false⟩ := by unfold colsT; rw [List.getElem?_map, hz]; rfl
          rw [this]
          simp [colL])
        clear htk
        go_wp2_with (first
          | (at_builtin
             go_loud (refine list_one 26 81 3 32 (.agg #[.string ⟨#[]⟩, .int .i64 0, .bool false]) Tryz.underlying26 info81 rfl (by omega) (by omega) _ rfl _ _ rfl (w.heap.size + 2) _ 0 (((colsT tys).take 0).map colL).flatten rfl (own_kept HB.out.own (((Below.refl _ _).alloc (Nat.le_refl _) _).alloc (by simp) _) (Nat.le_refl _)) _ 1 [.string ⟨#[97]⟩, .int .i64 t, .bool false] rfl rfl rfl (hq3 _ _) (by omega) (by have := HB.out.bx.size 1 (by simp); simp only [World.size_alloc]; omega) ?_)
             intro v4 w4 hown4 hgr4 hv4
             obtain ⟨A4, k4, rfl⟩ := own_slice hown4
             have HB4 := Lib.hid (HB.out.app rfl hown4 hgr4)
             obtain ⟨lc, c0, c1, c2, c3, c4, d0, d1, d2, d3, d4⟩ := (((HB.out.bx.alloc _).alloc _).grown hgr4 (fun b e => (own_base HB.out.own b e).1)).t5 1 rfl
             clear hown4 hgr4 hv4)
          | fail)
        go_roundw
        case rel => exact ⟨1, _, by omega, by go_num, by rw [HNEXT.out]; exact HB4⟩
        case measure => simp [intOf] <;> omega
      · have hg : ∃ t, tys[1]? = some t := ⟨_, List.getElem?_eq_getElem (by have := HN.out; omega)⟩
        obtain ⟨t, htk⟩ := hg
        have q0 := cell_kept (HT.out 1 t htk) HB.out.bx.below
        have hltn : ((1 : Int) < (n : Int)) = True := eq_true (by omega)
        have hcv := one_text wo 98 98 rfl
        have HNEXT := Lib.hid (show (((colsT tys).take (1 + 1)).map colL).flatten = (((colsT tys).take 1).map colL).flatten ++ [.string wB, .int .i64 t, .bool false] from by
          rw [List.take_add_one]
          have hz : (tys.zip [wA, wB])[1]? = some (t, wB) := List.getElem?_zip_eq_some.2 ⟨htk, rfl⟩
          have : (colsT tys)[1]? = some ⟨wB, t, false⟩ := by unfold colsT; rw [List.getElem?_map, hz]; rfl
          rw [this]
          simp [colL])
        clear htk
        go_wp2_with (first
          | (at_builtin
             go_loud (refine list_one 26 81 3 32 (.agg #[.string ⟨#[]⟩, .int .i64 0, .bool false]) Tryz.underlying26 info81 rfl (by omega) (by omega) _ rfl _ _ rfl (w.heap.size + 2) _ 1 (((colsT tys).take 1).map colL).flatten rfl (own_kept HB.out.own (((Below.refl _ _).alloc (Nat.le_refl _) _).alloc (by simp) _) (Nat.le_refl _)) _ 1 [.string ⟨#[98]⟩, .int .i64 t, .bool false] rfl rfl rfl (hq3 _ _) (by omega) (by have := HB.out.bx.size 1 (by simp); simp only [World.size_alloc]; omega) ?_)
             intro v4 w4 hown4 hgr4 hv4
             obtain ⟨A4, k4, rfl⟩ := own_slice hown4
             have HB4 := Lib.hid (HB.out.app rfl hown4 hgr4)
             obtain ⟨lc, c0, c1, c2, c3, c4, d0, d1, d2, d3, d4⟩ := (((HB.out.bx.alloc _).alloc _).grown hgr4 (fun b e => (own_base HB.out.own b e).1)).t5 1 rfl
             clear hown4 hgr4 hv4)
          | fail)
        go_roundw
        case rel => exact ⟨2, _, by omega, by go_num, by rw [HNEXT.out]; exact HB4⟩
        case measure => simp [intOf] <;> omega
    · obtain rfl : k = n := by omega
      obtain ⟨A9, c9, rfl⟩ := own_slice HB.out.own
      have hltn : ((k : Int) < (k : Int)) = False := eq_false (by omega)
      obtain ⟨la, a0, a1, a2, a3, a4, e0, e1, e2, e3, e4⟩ := HB.out.bx.t5 0 rfl
      simp only [Nat.add_zero] at la a0 a1 a2 a3 a4 e0 e1 e2 e3 e4
      go_wp2_with fail
      have HF := (HB.out.bx.set5 (k := 0) (v0 := .string nm) (v1 := .slice A9 k c9) (v2 := .int .i64 1) (v3 := .int .i64 1) (v4 := .int .i64 0) rfl)
      have hown := own_low (base' := w.heap.size) (own_far (own_far (own_far (own_far (own_far HB.out.own (b := w.heap.size) (i := 0) (by omega) (.string nm)) (b := w.heap.size) (i := 1) (by omega) (.slice A9 k c9)) (b := w.heap.size) (i := 2) (by omega) (.int .i64 1)) (b := w.heap.size) (i := 3) (by omega) (.int .i64 1)) (b := w.heap.size) (i := 4) (by omega) (.int .i64 0)) (by omega)
      exact bodyPost_ret (res_tb (fn := Tryz.f18) rfl rfl (HF.row0 _ _ rfl)) rfl ⟨_, rfl, HF.below, hown⟩
end Go.Proofs.YthdmfaepjemopaaGreatDoor
namespace Go.Proofs.YthdmfaepjemopaaGreatDoor
open Go.RowKit
set_option maxRecDepth 100000
theorem assert_errno (er : Int) (w : World) : Sem.run Tryz.prog (Instr.typeAssert (.iface 49 (.int .i64 er)) 20 49 true) w = .ok (.tuple #[.int .i64 er, .bool true]) w := by kernel_rfl
theorem assert_nil (w : World) : Sem.run Tryz.prog (Instr.typeAssert .nilIface 20 49 true) w = .ok (.tuple #[.int .i64 0, .bool false]) w := by kernel_rfl

theorem give_panic (p : Addr) (x er : Int) (older : List PanicEntry) (w : World) (hc : w.cell? p = some (.int .i64 x)) (hz : w.frozen? p = false) :
    CallsD Tryz.prog 21 #[.pointer (some p)] (.panicking ({ v := .iface 49 (.int .i64 er), recovered := false } :: older)) w fun e u' w' =>
      e = .returned (.tuple #[]) ∧ u' = .panicking ({ v := .iface 49 (.int .i64 er), recovered := true } :: older) ∧ w' = w.setCell p (.int .i64 er) := by
  have h1 := assert_errno er
  refine callsD_of_wpS Tryz.func21 rfl fun c₀ cs hu => ?_
  apply wpS_seq
  apply wpS_region
  simp [wpOpsS, go_sem, recoverD, hu, Tryz.ntmps21, Exit.thenS, h1]
  apply wpS_seq
  apply wpS_region
  simp [wpOpsS, go_sem, Exit.thenS]
  refine wpS_cond (t := true) (by simp [Act.eval, Array.replicate]) ?_
  simp only [if_true]
  apply wpS_region
  simp [wpOpsS, go_sem, hc, hz, bodyPostS, results, Tryz.results21]

theorem give_idle (p : Addr) (w : World) :
    CallsD Tryz.prog 21 #[.pointer (some p)] .returning w fun e u' w' => e = .returned (.tuple #[]) ∧ u' = .returning ∧ w' = w := by
  have h1 := assert_nil
  refine callsD_of_wpS Tryz.func21 rfl fun c₀ cs hu => ?_
  apply wpS_seq
  apply wpS_region
  simp [wpOpsS, go_sem, recoverD, hu, Tryz.ntmps21, Exit.thenS, h1]
  apply wpS_seq
  apply wpS_region
  simp [wpOpsS, go_sem, Exit.thenS]
  refine wpS_cond (t := false) (by simp [Act.eval, Array.replicate]) ?_
  simp only [Bool.false_eq_true, if_false]
  refine wpS_of_wp (wp_skip ?_)
  cases c₀
  simp_all [bodyPostS, results, Tryz.results21]
end Go.Proofs.YthdmfaepjemopaaGreatDoor
namespace Go.Proofs.YthdmfaepjemopaaGreatDoor
open Go.RowKit

def SelectO (n : Nat) (w : World) (r : Except Int Qy) (e : Ending) (w' : World) : Prop := Below w.heap.size w w' ∧ match r with
  | .ok q => ∃ v, e = .returned (.tuple #[v, .int .i64 0]) ∧ QyAt (fun b => w.heap.size ≤ b) n w' q v
  | .error er => e = .returned (.tuple #[.agg qryZ, .int .i64 er])
set_option maxHeartbeats 400000 in
theorem BX.set9 {w W : World} {bs : List Obj} {k : Nat} {u0 u1 u2 u3 u4 u5 u6 u7 u8 : Value} {ty : TypeId} {fr : Nat × Nat} (h : BX w bs W) (hk : bs[k]? = some (.cells #[u0, u1, u2, u3, u4, u5, u6, u7, u8] ty fr)) {v0 v1 v2 v3 v4 v5 v6 v7 v8 : Value} : BX w (bs.set k (.cells #[v0, v1, v2, v3, v4, v5, v6, v7, v8] ty fr)) (((((((((W.setCell ⟨w.heap.size + k, 0, none⟩ v0).setCell ⟨w.heap.size + k, 1, none⟩ v1).setCell ⟨w.heap.size + k, 2, none⟩ v2).setCell ⟨w.heap.size + k, 3, none⟩ v3).setCell ⟨w.heap.size + k, 4, none⟩ v4).setCell ⟨w.heap.size + k, 5, none⟩ v5).setCell ⟨w.heap.size + k, 6, none⟩ v6).setCell ⟨w.heap.size + k, 7, none⟩ v7).setCell ⟨w.heap.size + k, 8, none⟩ v8) := by
  have hl := (List.getElem?_eq_some_iff.1 hk).1
  have h1 := h.set hk 0 v0
  change BX w (bs.set k (.cells #[v0, u1, u2, u3, u4, u5, u6, u7, u8] ty fr)) _ at h1
  have h2 := h1.set (List.getElem?_set_self hl) 1 v1
  rw [List.set_set] at h2
  change BX w (bs.set k (.cells #[v0, v1, u2, u3, u4, u5, u6, u7, u8] ty fr)) _ at h2
  have h3 := h2.set (List.getElem?_set_self hl) 2 v2
  rw [List.set_set] at h3
  change BX w (bs.set k (.cells #[v0, v1, v2, u3, u4, u5, u6, u7, u8] ty fr)) _ at h3
  have h4 := h3.set (List.getElem?_set_self hl) 3 v3
  rw [List.set_set] at h4
  change BX w (bs.set k (.cells #[v0, v1, v2, v3, u4, u5, u6, u7, u8] ty fr)) _ at h4
  have h5 := h4.set (List.getElem?_set_self hl) 4 v4
  rw [List.set_set] at h5
  change BX w (bs.set k (.cells #[v0, v1, v2, v3, v4, u5, u6, u7, u8] ty fr)) _ at h5
  have h6 := h5.set (List.getElem?_set_self hl) 5 v5
  rw [List.set_set] at h6
  change BX w (bs.set k (.cells #[v0, v1, v2, v3, v4, v5, u6, u7, u8] ty fr)) _ at h6
  have h7 := h6.set (List.getElem?_set_self hl) 6 v6
  rw [List.set_set] at h7
  change BX w (bs.set k (.cells #[v0, v1, v2, v3, v4, v5, v6, u7, u8] ty fr)) _ at h7
  have h8 := h7.set (List.getElem?_set_self hl) 7 v7
  rw [List.set_set] at h8
  change BX w (bs.set k (.cells #[v0, v1, v2, v3, v4, v5, v6, v7, u8] ty fr)) _ at h8
  have h9 := h8.set (List.getElem?_set_self hl) 8 v8
  rw [List.set_set] at h9
  change BX w (bs.set k (.cells #[v0, v1, v2, v3, v4, v5, v6, v7, v8] ty fr)) _ at h9
  exact h9
set_option maxHeartbeats 1000000 in
theorem res_qe {fn : Func} {i j : Nat} (h : fn.results = #[.cell i 48, .cell j 49]) {tm : Array Value} {W : World} {pb eb : Nat} (hp : tm[i]?.getD undef = .pointer (some ⟨pb, 0, none⟩)) (he : tm[j]?.getD undef = .pointer (some ⟨eb, 0, none⟩)) {u0 u1 u2 u3 u4 u5 u6 u7 u8 e0 : Value} {ty ty2 : TypeId} (h1 : W.heap[pb]? = some (.cells #[u0, u1, u2, u3, u4, u5, u6, u7, u8] ty)) (h2 : W.heap[eb]? = some (.cells #[e0] ty2)) :
    (results fn tm).run Tryz.prog W = .ok (.tuple #[.agg #[u0, u1, u2, u3, u4, u5, u6, u7, u8], e0]) W := by
  obtain ⟨a0, a1, a2, a3, a4, a5, a6, a7, a8⟩ := row9 h1
  have b0 := cell_of_row _ _ 0 _ _ _ h2
  simp [results, h, go_sem, hp, he, a0, a1, a2, a3, a4, a5, a6, a7, a8, b0]
theorem door_idle {fn : Func} {tmps : Array Value} {R : Ending → World → Prop} {p : Addr} {W : World} (h : ∃ v, (results fn tmps).run Tryz.prog W = .ok v W ∧ R (.returned v) W) : Leaves Tryz.prog fn tmps R [{ target := .fn (.func 21) #[], args := #[.pointer (some p)] }] .returning W := by
  refine leaves_cons (f := 21) (args := #[.pointer (some p)]) (by simp) (by simp [go_sem]) ?_
  refine (give_idle _ _).mono ?_
  rintro e u' w3 ⟨rfl, rfl, rfl⟩
  exact h
theorem QyAt.set {ok : Nat → Prop} {n : Nat} {W : World} {q : Qy} {v : Value} (h : QyAt ok n W q v) {g i : Nat} {u : Value} (hg : ∀ b, ok b → b ≠ g) : QyAt ok n (W.setCell ⟨g, i, none⟩ u) q v :=
  h.grown (set_grown W g i u) (fun b hb e => hg b hb (Option.some.inj e))
set_option maxRecDepth 100000 in
set_option maxHeartbeats 4000000 in
theorem select_any (n : Nat) (hn : 0 < n) (sA : Option Addr) (sk : Nat) (ia : Option Addr) (il ik : Nat) (ts : List (Tab × List Col)) (x : St) (w : World) (hD : DeepAt w sA ts) (ht : ∀ p ∈ ts, p.2.length ≤ 12) (hX : StAt w n x) (hM : StSmall n x) :
    Calls Tryz.prog 9 #[.agg #[.slice sA ts.length sk, .slice ia il ik], stV x] w (SelectO n w (chooseR n ts x)) := by
  have HCH := Lib.hid (show ∀ W, Below w.heap.size w W → Calls Tryz.prog 22 #[.agg #[.slice sA ts.length sk, .slice ia il ik], stV x] W (ChooseO n W (chooseR n ts x)) from fun W hB => choose_any n hn sA sk ia il ik ts x W (hD.keep hB) ht (hX.keep hB) hM)
  cases hr : chooseR n ts x with
  | error er =>
    rw [hr] at HCH
    clear hr hD ht hX hM hn
    go_enter_defers Tryz.func9, Tryz.ntmps9
    go_wp2_with (first
      | (go_at_call 22; (with_reducible refine Calls.mono (HCH.out _ (BX.four w _ _ _ _).below) ?_); rintro e w2 ⟨hB2, rfl⟩
         have HB2 := Lib.hid ((BX.four w _ _ _ _).keep hB2)
         clear hB2)
      | fail)
    refine leaves_cons (f := 21) (args := #[.pointer (some ⟨w.heap.size + 3, 0, none⟩)]) (by simp) (by simp [go_sem]) ?_
    have r3 := HB2.out.row 3 _ _ rfl
    refine (give_panic _ 0 er [] w2 (cell_of_row _ _ 0 _ _ _ r3) (frozen_of_row _ _ 0 _ _ r3)).mono ?_
    rintro e u' w3 ⟨rfl, rfl, rfl⟩
    have HF := HB2.out.set (k := 3) rfl 0 (.int .i64 er)
    exact ⟨_, res_qe (fn := Tryz.f9) rfl rfl rfl (HF.row 2 _ _ rfl) (HF.row 3 _ _ rfl), HF.below, rfl⟩
  | ok q =>
    rw [hr] at HCH
    clear hr hD ht hX hM hn
    go_enter_defers Tryz.func9, Tryz.ntmps9
    go_wp2_with (first
      | (go_at_call 22; (with_reducible refine Calls.mono (HCH.out _ (BX.four w _ _ _ _).below) ?_); rintro e w2 ⟨hB2, v, rfl, hQ⟩
         have HB2 := Lib.hid ((BX.four w _ _ _ _).keep hB2)
         have HQ := Lib.hid (hQ.mono (ok' := fun b => w.heap.size + 4 ≤ b) (fun b hb _ => by simp only [World.size_alloc] at hb; omega))
         obtain ⟨tA, tc, bA, bc, wA, wc, wvs, gA, gc, iA, ic, ivs, oA, oc, rfl, -⟩ := hQ
         obtain ⟨b0, b1, b2, b3, b4, b5, b6, b7, b8⟩ := row9 (HB2.out.row 2 _ _ rfl)
         obtain ⟨f0, f1, f2, f3, f4, f5, f6, f7, f8⟩ := free9 (HB2.out.row 2 _ _ rfl)
         have l2 := heap_lt (HB2.out.row 2 _ _ rfl)
         have c3 := cell_of_row _ _ 0 _ _ _ (HB2.out.row 3 _ _ rfl)
         have g3 := frozen_of_row _ _ 0 _ _ (HB2.out.row 3 _ _ rfl)
         have l3 := heap_lt (HB2.out.row 3 _ _ rfl)
         simp only [plus2, plus3] at b0 b1 b2 b3 b4 b5 b6 b7 b8 f0 f1 f2 f3 f4 f5 f6 f7 f8 l2 c3 g3 l3
         clear hB2)
      | fail)
    have HF := ((HB2.out.set9 (k := 2) (v0 := .slice tA q.tabs.length tc) (v1 := .slice bA q.begs.length bc) (v2 := .int .i64 q.width) (v3 := .slice wA wvs.length wc) (v4 := .slice gA q.grp.length gc) (v5 := .bool q.gr) (v6 := .slice iA ivs.length ic) (v7 := .slice oA q.ord.length oc) (v8 := .int .i64 q.lim) rfl).set9 (k := 2) (v0 := .slice tA q.tabs.length tc) (v1 := .slice bA q.begs.length bc) (v2 := .int .i64 q.width) (v3 := .slice wA wvs.length wc) (v4 := .slice gA q.grp.length gc) (v5 := .bool q.gr) (v6 := .slice iA ivs.length ic) (v7 := .slice oA q.ord.length oc) (v8 := .int .i64 q.lim) rfl).set (k := 3) rfl 0 (.int .i64 0)
    refine door_idle ⟨_, res_qe (fn := Tryz.f9) rfl rfl rfl (HF.row 2 _ _ rfl) (HF.row 3 _ _ rfl), HF.below, _, rfl, QyAt.mono (ok := fun b => w.heap.size + 4 ≤ b) ?_ (fun b hb _ => by omega)⟩
    iterate 19 refine QyAt.set ?_ (fun b hb => by omega)
    exact HQ.out
end Go.Proofs.YthdmfaepjemopaaGreatDoor
namespace Go.Proofs.YthdmfaepjemopaaGreatDoor
open Go.RowKit

theorem row_cells {W : World} {g : Nat} {ty : TypeId} {K : Nat} (ls : List (List Value)) (hl : ∀ x ∈ ls, x.length = K) (hm : ls.length ≤ maxLen) (h : W.heap[g]? = some (.cells ls.flatten.toArray ty)) : CellsAt W K (some ⟨g, 0, none⟩) ls := by
  have hf := flat_len hl
  have hown : W.ownsRow 0 ty K (.slice (some ⟨g, 0, none⟩) ls.length ls.length) ls.length ls.flatten := ⟨hf, Or.inr ⟨g, ls.length, ls.flatten.toArray, rfl, Nat.zero_le _, h, Nat.le_refl _, hm, by rw [List.size_toArray]; exact hf, by rw [← hf]; exact List.take_length⟩⟩
  obtain ⟨A, c, e, _, hC, _⟩ := own_cells hown hl rfl
  cases e
  exact hC
theorem ex_leaf {W : World} {x : Ex} (h : x.args = []) (n : Nat) : ExAt W (n + 1) x := by
  unfold ExAt
  rw [h]
  exact ⟨CellsAt.nil_at _ _ _, fun a ha => by cases ha⟩
theorem ex_of {n : Nat} {W : World} {x : Ex} (h : XA n W x) (m : Nat) : ExAt W (m + 2) x := by
  rcases h with h | ⟨g, y1, y2, ty, h1, h2, h3, h4, _, h6⟩
  · exact ex_leaf h (m + 1)
  · show CellsAt W 10 x.A (x.args.map exL) ∧ ∀ a ∈ x.args, ExAt W (m + 1) a
    rw [h1, h4]
    refine ⟨row_cells (ty := ty) [exL y1, exL y2] (fun z hz => ?_) (by unfold maxLen; simp) ?_, fun a ha => ?_⟩
    · rcases List.mem_cons.1 hz with rfl | hz
      · rfl
      · rcases List.mem_cons.1 hz with rfl | hz
        · rfl
        · cases hz
    · have e : [exL y1, exL y2].flatten = exL y1 ++ exL y2 := rfl
      rw [e]
      exact h6
    · rcases List.mem_cons.1 ha with rfl | ha
      · exact ex_leaf h2 m
      · rcases List.mem_cons.1 ha with rfl | ha
        · exact ex_leaf h3 m
        · cases ha
theorem exs_of {n : Nat} {W : World} {A : Option Addr} {x : Ex} (h : SX n W A x) (m : Nat) : ExsAt W (m + 2) A [x] := by
  obtain ⟨g, ty, rfl, _, h3, h4⟩ := h
  refine ⟨row_cells [exL x] (fun z hz => by rcases List.mem_cons.1 hz with rfl | hz; exact rfl; cases hz) (by unfold maxLen; simp) h3, fun a ha => ?_⟩
  rcases List.mem_cons.1 ha with rfl | ha
  · exact ex_of h4 m
  · cases ha
def stx (A1 : Option Addr) (x : Ex) (A2 : Option Addr) (k : Nat) (A3 : Option Addr) (y : Ex) : St := ⟨1, ⟨#[]⟩, none, 0, 0, none, 0, 0, none, 0, 0, false, A1, 1, [x], A2, k, [(wT, wT), (wU, wU)], A3, 1, [y], none, 0, [], none, 0, [], -1⟩
theorem stx_at {n : Nat} {W : World} {A1 A2 A3 : Option Addr} {x y : Ex} {k : Nat} (h1 : SX n W A1 x) (h2 : W.ownsRow n 60 2 (.slice A2 2 k) 2 [.string wT, .string wT, .string wU, .string wU]) (h3 : SX n W A3 y) : StAt W 3 (stx A1 x A2 k A3 y) := by
  obtain ⟨A, c, e, _, hC, _⟩ := own_cells (ls := [[.string wT, .string wT], [.string wU, .string wU]]) h2 (fun z hz => by
    rcases List.mem_cons.1 hz with rfl | hz
    · rfl
    · rcases List.mem_cons.1 hz with rfl | hz
      · rfl
      · cases hz) rfl
  cases e
  exact ⟨exs_of h1 1, hC, exs_of h3 1, ⟨CellsAt.nil_at _ _ _, fun a ha => by cases ha⟩, CellsAt.nil_at _ _ _, fun a ha => by cases ha⟩
theorem col_kind {rows : List Row} {x : Ex} {p : Nd} (h : colR rows x = .ok p) : p.kind = 2 ∧ p.args = [] := by
  unfold colR at h
  split at h
  · cases h
    exact ⟨rfl, rfl⟩
  · cases h
theorem bind_col (n : Nat) (rows : List Row) (fo : Bool) (t s : ByteArray) : bindR (n + 1) rows fo (colX t s) = colR rows (colX t s) := by
  simp [bindR, colX, Ex.kind, foldK, arity, opOk]
theorem tst_bind {n : Nat} {rows : List Row} {y : Ex} (hy : tst y) {p : Nd} (h : bindR (n + 2) rows false y = .ok p) : p.kind = 7 ∧ ∀ a ∈ p.args, a.kind = 2 ∧ a.args = [] := by
  obtain ⟨A, k, x, rfl, rfl⟩ := hy
  unfold bindR at h
  rw [if_neg (fun h => by have h1 : foldK 7 = true := h.1; revert h1; decide)] at h
  have ho : opOk 7 ⟨#[61]⟩ = true := by decide +kernel
  simp only [Ex.kind, Ex.op, Ex.args, show arity 7 = some 2 from rfl, ho] at h
  rw [if_neg (by decide), if_neg (by decide), if_neg (by decide), if_neg (by simp)] at h
  simp only [bindArgs, bind_col] at h
  cases h1 : colR rows (colX wT wA) with
  | error e => rw [h1] at h; cases h
  | ok p1 =>
    rw [h1] at h
    dsimp only at h
    cases h2 : colR rows (colX wU wA) with
    | error e => rw [h2] at h; cases h
    | ok p2 =>
      rw [h2] at h
      dsimp only at h
      split at h
      · cases h
      · cases h
        refine ⟨rfl, fun a ha => ?_⟩
        rcases List.mem_cons.1 ha with rfl | ha
        · exact col_kind h1
        · rcases List.mem_cons.1 ha with rfl | ha
          · exact col_kind h2
          · cases ha
theorem stx_small {A1 A2 A3 : Option Addr} {x y : Ex} {k : Nat} (hx : x = colX ⟨#[]⟩ wB) (hy : tst y) : StSmall 3 (stx A1 x A2 k A3 y) := by
  have hleaf : ∀ (t s : ByteArray) (n : Nat), SmallX n (colX t s) := fun t s n => by
    cases n with
    | zero => exact trivial
    | succ n => exact ⟨Nat.zero_le _, fun a ha => by cases ha⟩
  refine ⟨⟨by show 1 ≤ 30; omega, fun z hz => ?_⟩, ⟨by show 1 ≤ 30; omega, fun z hz => ?_, fun rows z hz p hp => ?_⟩, Nat.zero_le _, Nat.zero_le _⟩
  · rcases List.mem_cons.1 hz with rfl | hz
    · rw [hx]; exact hleaf _ _ _
    · cases hz
  · rcases List.mem_cons.1 hz with rfl | hz
    · obtain ⟨A, k, x, rfl, rfl⟩ := hy
      refine ⟨by show 2 ≤ 1000; omega, fun a ha => ?_⟩
      rcases List.mem_cons.1 ha with rfl | ha
      · exact hleaf _ _ _
      · rcases List.mem_cons.1 ha with rfl | ha
        · exact hleaf _ _ _
        · cases ha
    · cases hz
  · rcases List.mem_cons.1 hz with rfl | hz
    · obtain ⟨hk, ha⟩ := tst_bind hy hp
      refine ⟨⟨fun h => (by rw [hk] at h; cases h), fun a haa => ⟨fun h => (by rw [(ha a haa).1] at h; cases h), fun c hc => (by rw [(ha a haa).2] at hc; cases hc)⟩⟩, ?_⟩
      unfold partsR
      rw [if_neg (by rw [hk]; decide)]
      show 1 ≤ 1000
      omega
    · cases hz
end Go.Proofs.YthdmfaepjemopaaGreatDoor
namespace Go.Proofs.YthdmfaepjemopaaGreatDoor
open Go.RowKit

def tbl (nm : ByteArray) (A : Option Addr) (n c : Nat) : Tab := ⟨nm, A, n, c, 1, 1, 0⟩
def txtTs (A1 : Option Addr) (c1 : Nat) (A2 : Option Addr) (c2 : Nat) : List (Tab × List Col) := [(tbl wT A1 2 c1, colsT [1, 3]), (tbl wU A2 1 c2, colsT [1])]
def txtQ : Qy := ⟨[0, 1], [0, 2], 3, [.mk 7 ⟨#[61]⟩ zeroV 0 false 4 [.mk 2 ⟨#[]⟩ zeroV 0 false 1 [], .mk 2 ⟨#[]⟩ zeroV 2 false 1 []]], [], false, [.mk 2 ⟨#[]⟩ zeroV 1 false 3 []], [], -1⟩
set_option maxRecDepth 100000 in
theorem choose_txt (B1 : Option Addr) (c1 : Nat) (B2 : Option Addr) (c2 : Nat) {A1 A2 A3 : Option Addr} {x y : Ex} {k : Nat} (hx : x = colX ⟨#[]⟩ wB) (hy : tst y) : chooseR 3 (txtTs B1 c1 B2 c2) (stx A1 x A2 k A3 y) = .ok txtQ := by
  obtain ⟨A, m, z, rfl, rfl⟩ := hy
  subst hx
  kernel_rfl
end Go.Proofs.YthdmfaepjemopaaGreatDoor
namespace Go.Proofs.YthdmfaepjemopaaGreatDoor
open Go.RowKit

def TbP (nm : ByteArray) (tys : List Int) (w : World) (e : Ending) (w' : World) : Prop := ∃ (A : Option Addr) (c : Nat), e = .returned (.agg (tbR nm (.slice A tys.length c))) ∧ Below w.heap.size w w' ∧ w'.ownsRow w.heap.size 81 3 (.slice A tys.length c) tys.length ((colsT tys).map colL).flatten
theorem table_new (nm : ByteArray) (tys : List Int) (W : World) (ty : TypeId) (hn : tys.length ≤ 2) : Calls Tryz.prog 18 #[.string nm, .slice (some ⟨W.heap.size, 0, none⟩) tys.length tys.length] (W.alloc (.cells (tys.map (Value.int .i64)).toArray ty)) (TbP nm tys (W.alloc (.cells (tys.map (Value.int .i64)).toArray ty))) := by
  refine (mktab_any nm W.heap.size tys.length tys _ hn (fun j t ht => ?_) (by simp)).mono ?_
  · refine cell_of_row _ _ j _ _ _ (heap_alloc_new W _) |>.trans ?_
    simp [ht]
  · rintro e w' ⟨v, rfl, hB, ho⟩
    obtain ⟨A, c, rfl⟩ := own_slice ho
    refine ⟨A, c, rfl, hB, ?_⟩
    have hl : ((colsT tys).take tys.length) = colsT tys := List.take_of_length_le (by unfold colsT; simp; omega)
    rw [hl] at ho
    exact ho
theorem deep_of {W : World} {tb : Nat} {ty : TypeId} {A1 A2 : Option Addr} {c1 c2 b1 b2 : Nat} (hr : W.heap[tb]? = some (.cells #[.string wT, .slice A1 2 c1, .int .i64 1, .int .i64 1, .int .i64 0, .string wU, .slice A2 1 c2, .int .i64 1, .int .i64 1, .int .i64 0] ty)) (h1 : W.ownsRow b1 81 3 (.slice A1 2 c1) 2 ((colsT [1, 3]).map colL).flatten) (h2 : W.ownsRow b2 81 3 (.slice A2 1 c2) 1 ((colsT [1]).map colL).flatten) : DeepAt W (some ⟨tb, 0, none⟩) (txtTs A1 c1 A2 c2) := by
  have hlen : ∀ (l : List Col), ∀ z ∈ l.map colL, z.length = 3 := fun l z hz => by obtain ⟨q, _, rfl⟩ := List.mem_map.1 hz; rfl
  obtain ⟨A, c, e, hc1, hC1, _, hN1⟩ := own_cells h1 (hlen _) rfl
  cases e
  obtain ⟨A, c, e, hc2, hC2, _, hN2⟩ := own_cells h2 (hlen _) rfl
  cases e
  refine ⟨row_cells (ty := ty) [tabL (tbl wT A1 2 c1), tabL (tbl wU A2 1 c2)] (fun z hz => ?_) (by unfold maxLen; simp) hr, fun p hp => ?_⟩
  · rcases List.mem_cons.1 hz with rfl | hz
    · rfl
    · rcases List.mem_cons.1 hz with rfl | hz
      · rfl
      · cases hz
  · rcases List.mem_cons.1 hp with rfl | hp
    · exact ⟨hC1, rfl, hc1, fun h => (hN1 h).1⟩
    · rcases List.mem_cons.1 hp with rfl | hp
      · exact ⟨hC2, rfl, hc2, fun h => (hN2 h).1⟩
      · cases hp
theorem sel_txt {W : World} {tb c1 c2 k : Nat} {A1 A2 E1 E2 E3 : Option Addr} {x y : Ex} (hD : DeepAt W (some ⟨tb, 0, none⟩) (txtTs A1 c1 A2 c2)) (hX : StAt W 3 (stx E1 x E2 k E3 y)) (hx : x = colX ⟨#[]⟩ wB) (hy : tst y) : Calls Tryz.prog 9 #[.agg #[.slice (some ⟨tb, 0, none⟩) 2 2, .slice none 0 0], .agg (stR (.slice E1 1 1) (.slice E2 2 k) (.slice E3 1 1))] W (SelectO 3 W (.ok txtQ)) := by
  have h := select_any 3 (by omega) (some ⟨tb, 0, none⟩) 2 none 0 0 (txtTs A1 c1 A2 c2) (stx E1 x E2 k E3 y) W hD (fun p hp => by
    rcases List.mem_cons.1 hp with rfl | hp
    · show 2 ≤ 12
      omega
    · rcases List.mem_cons.1 hp with rfl | hp
      · show 1 ≤ 12
        omega
      · cases hp) hX (stx_small hx hy)
  rw [choose_txt A1 c1 A2 c2 hx hy] at h
  exact h
theorem qry_txt {ok : Nat → Prop} {W : World} {v : Value} (h : QyAt ok 3 W txtQ v) : ∃ (tA bA gA oA wA : Option Addr) (tc bc gc oc wc ib io ic : Nat), v = .agg #[.slice tA 2 tc, .slice bA 2 bc, .int .i64 3, .slice wA 1 wc, .slice gA 0 gc, .bool false, .slice (some ⟨ib, io, none⟩) 1 ic, .slice oA 0 oc, .int .i64 (-1)] ∧ ib < W.heap.size ∧ W.cell? ⟨ib, io + 6, none⟩ = some (.int .i64 1) ∧ W.cell? ⟨ib, io + 8, none⟩ = some (.int .i64 3) := by
  obtain ⟨tA, tc, bA, bc, wA, wc, wvs, gA, gc, iA, ic, ivs, oA, oc, rfl, _, _, _, hw, _, hI, hn, _⟩ := h
  have hw1 : wvs.length = 1 := hw.1
  have hi1 : ivs.length = 1 := hn.1
  obtain ⟨z, rfl⟩ : ∃ z, ivs = [z] := by
    match ivs, hi1 with
    | [z], _ => exact ⟨z, rfl⟩
  obtain ⟨B, bcap, vs, rfl, _⟩ := hn.2 0 z _ rfl rfl
  rcases hI.1.2 with h0 | ⟨ib, io, rfl, hib, hc⟩
  · cases h0
  · have h6 := (hc 0 _ rfl).2 6 _ rfl
    have h8 := (hc 0 _ rfl).2 8 _ rfl
    refine ⟨tA, bA, gA, oA, wA, tc, bc, gc, oc, wc, ib, io, ic, by rw [hw1]; rfl, hib, ?_, ?_⟩
    · simpa [Nd.pos] using h6
    · simpa [Nd.ty] using h8
theorem ps_txt (W : World) : Calls Tryz.prog 19 #[.string ⟨#[83, 69, 76, 69, 67, 84, 32, 98, 32, 70, 82, 79, 77, 32, 116, 44, 32, 117, 32, 87, 72, 69, 82, 69, 32, 116, 46, 97, 32, 61, 32, 117, 46, 97]⟩, .int .i64 100] W (PsP W) := by
  have h := parse_at txt 100 W lex_at
  unfold txt at h
  exact h
theorem tb_t (W : World) (ty : TypeId) : Calls Tryz.prog 18 #[.string ⟨#[116]⟩, .slice (some ⟨W.heap.size, 0, none⟩) 2 2] (W.alloc (.cells #[.int .i64 1, .int .i64 3] ty)) (TbP wT [1, 3] (W.alloc (.cells #[.int .i64 1, .int .i64 3] ty))) := by
  have h := table_new wT [1, 3] W ty (by simp)
  simp only [List.length_cons, List.length_nil, List.map_cons, List.map_nil] at h
  exact h
theorem tb_u (W : World) (ty : TypeId) : Calls Tryz.prog 18 #[.string ⟨#[117]⟩, .slice (some ⟨W.heap.size, 0, none⟩) 1 1] (W.alloc (.cells #[.int .i64 1] ty)) (TbP wU [1] (W.alloc (.cells #[.int .i64 1] ty))) := table_new wU [1] W ty (by simp)
set_option maxRecDepth 100000 in
set_option maxHeartbeats 32000000 in
theorem lives_any (w : World) : Calls Tryz.prog 6 #[] w (RetV (.bool true) w) := by
  have HT1 := Lib.hid tb_t
  have HT2 := Lib.hid tb_u
  have HPS := Lib.hid ps_txt
  go_enter Tryz.func6, Tryz.ntmps6
  go_wp2_with (first
    | (go_at_call 18; (with_reducible refine Calls.mono (HT1.out _ _) ?_); rintro e w2 ⟨A1, c1, rfl, hB, ho⟩
       have H2 := Lib.hid ((below1 w _).trans (hB.mono (below1 w _).size))
       have O1 := Lib.hid ho
       clear hB ho)
    | (go_at_call 18; (with_reducible refine Calls.mono (HT2.out _ _) ?_); rintro e w3 ⟨A2, c2, rfl, hB, ho⟩
       have H3 := Lib.hid ((below1 w2 _).trans (hB.mono (below1 w2 _).size))
       have O2 := Lib.hid ho
       have O1b := Lib.hid (own_kept O1.out H3.out (Nat.le_refl _))
       clear hB ho)
    | (go_at_call 19; (with_reducible refine Calls.mono (HPS.out _) ?_); rintro e w5 ⟨E1, E2, E3, k, x, y, rfl, hB, hS, hO, hS2, hx, hy⟩
       have HB5 := (BX.two w3 _ _).keep hB
       obtain ⟨lz, s0, s1, _⟩ := HB5.f2 1 rfl
       have HD := Lib.hid (deep_of (HB5.row0 _ _ rfl) (own_kept O1b.out HB5.below (Nat.le_refl _)) (own_kept O2.out HB5.below (Nat.le_refl _)))
       have HX := Lib.hid (stx_at hS hO hS2)
       have HEX := Lib.hid hx
       have HEY := Lib.hid hy
       have H5 := Lib.hid (btr (btr H2.out H3.out) HB5.below)
       clear hB hS hO hS2 hx hy HB5)
    | (go_at_call 9; (with_reducible refine Calls.mono (sel_txt (HD.out.keep (below1 w5 _)) (HX.out.keep (below1 w5 _)) HEX.out HEY.out) ?_); rintro e w6 ⟨hB6, v, rfl, hQ⟩
       obtain ⟨tA, bA, gA, oA, qA, tc, bc, gc, oc, qc, ib, io, ic, rfl, hib, i6, i8⟩ := qry_txt hQ
       have H6 := Lib.hid (btr H5.out (btr (below1 w5 _) hB6))
       clear hQ hB6)
    | fail)
  exact bodyPost_ret (results_tmp rfl _ _ _) rfl ⟨rfl, btr H6.out (below1 w6 _)⟩
end Go.Proofs.YthdmfaepjemopaaGreatDoor
