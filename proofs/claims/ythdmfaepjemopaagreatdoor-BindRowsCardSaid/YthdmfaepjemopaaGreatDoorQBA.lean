/- The document's parser at the words of one text: the query. The document's parser at the words of one text: the statement. The document's parser at the words of one text: all of it put together. The document's lexer: kinds of bytes, keywords. -/
import Derived.Test.YthdmfaepjemopaaGreatDoorQAZ
import Derived.Test.YthdmfaepjemopaaGreatDoorQAG
import Derived.Lib.Strings
namespace Go.Proofs.YthdmfaepjemopaaGreatDoor
open Go.RowKit

@[reducible] def stR (a b c : Value) : Array Value := #[.int .i64 1, .string ⟨#[]⟩, .slice none 0 0, .slice none 0 0, .slice none 0 0, .bool false, a, b, c, .slice none 0 0, .slice none 0 0, .int .i64 (-1)]
theorem BX.s12 {w W : World} {bs : List Obj} (h : BX w bs W) (k : Nat) {u0 u1 u2 u3 u4 u5 u6 u7 u8 u9 u10 u11 : Value} {ty : TypeId} (hk : bs[k]? = some (.cells #[u0, u1, u2, u3, u4, u5, u6, u7, u8, u9, u10, u11] ty)) : w.heap.size + k < W.heap.size ∧ W.cell? ⟨w.heap.size + k, 0, none⟩ = some u0 ∧ W.cell? ⟨w.heap.size + k, 1, none⟩ = some u1 ∧ W.cell? ⟨w.heap.size + k, 2, none⟩ = some u2 ∧ W.cell? ⟨w.heap.size + k, 3, none⟩ = some u3 ∧ W.cell? ⟨w.heap.size + k, 4, none⟩ = some u4 ∧ W.cell? ⟨w.heap.size + k, 5, none⟩ = some u5 ∧ W.cell? ⟨w.heap.size + k, 6, none⟩ = some u6 ∧ W.cell? ⟨w.heap.size + k, 7, none⟩ = some u7 ∧ W.cell? ⟨w.heap.size + k, 8, none⟩ = some u8 ∧ W.cell? ⟨w.heap.size + k, 9, none⟩ = some u9 ∧ W.cell? ⟨w.heap.size + k, 10, none⟩ = some u10 ∧ W.cell? ⟨w.heap.size + k, 11, none⟩ = some u11 ∧ W.frozen? ⟨w.heap.size + k, 0, none⟩ = false ∧ W.frozen? ⟨w.heap.size + k, 1, none⟩ = false ∧ W.frozen? ⟨w.heap.size + k, 2, none⟩ = false ∧ W.frozen? ⟨w.heap.size + k, 3, none⟩ = false ∧ W.frozen? ⟨w.heap.size + k, 4, none⟩ = false ∧ W.frozen? ⟨w.heap.size + k, 5, none⟩ = false ∧ W.frozen? ⟨w.heap.size + k, 6, none⟩ = false ∧ W.frozen? ⟨w.heap.size + k, 7, none⟩ = false ∧ W.frozen? ⟨w.heap.size + k, 8, none⟩ = false ∧ W.frozen? ⟨w.heap.size + k, 9, none⟩ = false ∧ W.frozen? ⟨w.heap.size + k, 10, none⟩ = false ∧ W.frozen? ⟨w.heap.size + k, 11, none⟩ = false := by
  have h1 := h.2 k _ hk
  exact ⟨heap_lt h1, cell_of_row _ _ 0 _ _ _ h1, cell_of_row _ _ 1 _ _ _ h1, cell_of_row _ _ 2 _ _ _ h1, cell_of_row _ _ 3 _ _ _ h1, cell_of_row _ _ 4 _ _ _ h1, cell_of_row _ _ 5 _ _ _ h1, cell_of_row _ _ 6 _ _ _ h1, cell_of_row _ _ 7 _ _ _ h1, cell_of_row _ _ 8 _ _ _ h1, cell_of_row _ _ 9 _ _ _ h1, cell_of_row _ _ 10 _ _ _ h1, cell_of_row _ _ 11 _ _ _ h1, frozen_of_row _ _ 0 _ _ h1, frozen_of_row _ _ 1 _ _ h1, frozen_of_row _ _ 2 _ _ h1, frozen_of_row _ _ 3 _ _ h1, frozen_of_row _ _ 4 _ _ h1, frozen_of_row _ _ 5 _ _ h1, frozen_of_row _ _ 6 _ _ h1, frozen_of_row _ _ 7 _ _ h1, frozen_of_row _ _ 8 _ _ h1, frozen_of_row _ _ 9 _ _ h1, frozen_of_row _ _ 10 _ _ h1, frozen_of_row _ _ 11 _ _ h1⟩
set_option maxHeartbeats 400000 in
theorem BX.set12 {w W : World} {bs : List Obj} {k : Nat} {u0 u1 u2 u3 u4 u5 u6 u7 u8 u9 u10 u11 : Value} {ty : TypeId} {fr : Nat × Nat} (h : BX w bs W) (hk : bs[k]? = some (.cells #[u0, u1, u2, u3, u4, u5, u6, u7, u8, u9, u10, u11] ty fr)) {v0 v1 v2 v3 v4 v5 v6 v7 v8 v9 v10 v11 : Value} : BX w (bs.set k (.cells #[v0, v1, v2, v3, v4, v5, v6, v7, v8, v9, v10, v11] ty fr)) ((((((((((((W.setCell ⟨w.heap.size + k, 0, none⟩ v0).setCell ⟨w.heap.size + k, 1, none⟩ v1).setCell ⟨w.heap.size + k, 2, none⟩ v2).setCell ⟨w.heap.size + k, 3, none⟩ v3).setCell ⟨w.heap.size + k, 4, none⟩ v4).setCell ⟨w.heap.size + k, 5, none⟩ v5).setCell ⟨w.heap.size + k, 6, none⟩ v6).setCell ⟨w.heap.size + k, 7, none⟩ v7).setCell ⟨w.heap.size + k, 8, none⟩ v8).setCell ⟨w.heap.size + k, 9, none⟩ v9).setCell ⟨w.heap.size + k, 10, none⟩ v10).setCell ⟨w.heap.size + k, 11, none⟩ v11) := by
  have hl := (List.getElem?_eq_some_iff.1 hk).1
  have h1 := h.set hk 0 v0
  change BX w (bs.set k (.cells #[v0, u1, u2, u3, u4, u5, u6, u7, u8, u9, u10, u11] ty fr)) _ at h1
  have h2 := h1.set (List.getElem?_set_self hl) 1 v1
  rw [List.set_set] at h2
  change BX w (bs.set k (.cells #[v0, v1, u2, u3, u4, u5, u6, u7, u8, u9, u10, u11] ty fr)) _ at h2
  have h3 := h2.set (List.getElem?_set_self hl) 2 v2
  rw [List.set_set] at h3
  change BX w (bs.set k (.cells #[v0, v1, v2, u3, u4, u5, u6, u7, u8, u9, u10, u11] ty fr)) _ at h3
  have h4 := h3.set (List.getElem?_set_self hl) 3 v3
  rw [List.set_set] at h4
  change BX w (bs.set k (.cells #[v0, v1, v2, v3, u4, u5, u6, u7, u8, u9, u10, u11] ty fr)) _ at h4
  have h5 := h4.set (List.getElem?_set_self hl) 4 v4
  rw [List.set_set] at h5
  change BX w (bs.set k (.cells #[v0, v1, v2, v3, v4, u5, u6, u7, u8, u9, u10, u11] ty fr)) _ at h5
  have h6 := h5.set (List.getElem?_set_self hl) 5 v5
  rw [List.set_set] at h6
  change BX w (bs.set k (.cells #[v0, v1, v2, v3, v4, v5, u6, u7, u8, u9, u10, u11] ty fr)) _ at h6
  have h7 := h6.set (List.getElem?_set_self hl) 6 v6
  rw [List.set_set] at h7
  change BX w (bs.set k (.cells #[v0, v1, v2, v3, v4, v5, v6, u7, u8, u9, u10, u11] ty fr)) _ at h7
  have h8 := h7.set (List.getElem?_set_self hl) 7 v7
  rw [List.set_set] at h8
  change BX w (bs.set k (.cells #[v0, v1, v2, v3, v4, v5, v6, v7, u8, u9, u10, u11] ty fr)) _ at h8
  have h9 := h8.set (List.getElem?_set_self hl) 8 v8
  rw [List.set_set] at h9
  change BX w (bs.set k (.cells #[v0, v1, v2, v3, v4, v5, v6, v7, v8, u9, u10, u11] ty fr)) _ at h9
  have h10 := h9.set (List.getElem?_set_self hl) 9 v9
  rw [List.set_set] at h10
  change BX w (bs.set k (.cells #[v0, v1, v2, v3, v4, v5, v6, v7, v8, v9, u10, u11] ty fr)) _ at h10
  have h11 := h10.set (List.getElem?_set_self hl) 10 v10
  rw [List.set_set] at h11
  change BX w (bs.set k (.cells #[v0, v1, v2, v3, v4, v5, v6, v7, v8, v9, v10, u11] ty fr)) _ at h11
  have h12 := h11.set (List.getElem?_set_self hl) 11 v11
  rw [List.set_set] at h12
  change BX w (bs.set k (.cells #[v0, v1, v2, v3, v4, v5, v6, v7, v8, v9, v10, v11] ty fr)) _ at h12
  exact h12
theorem res_pt {fn : Func} {i j : Nat} (h : fn.results = #[.cell i 99, .cell j 33]) {tm : Array Value} {W : World} {pb eb : Nat} (hp : tm[i]?.getD undef = .pointer (some ⟨pb, 0, none⟩)) (he : tm[j]?.getD undef = .pointer (some ⟨eb, 0, none⟩)) {v0 v1 v2 v3 u0 u1 u2 u3 u4 u5 u6 u7 u8 u9 u10 u11 : Value} {ty ty2 : TypeId} (h1 : W.heap[pb]? = some (.cells #[v0, v1, v2, v3] ty)) (h2 : W.heap[eb]? = some (.cells #[u0, u1, u2, u3, u4, u5, u6, u7, u8, u9, u10, u11] ty2)) :
    (results fn tm).run Tryz.prog W = .ok (.tuple #[.agg #[v0, v1, v2, v3], .agg #[u0, u1, u2, u3, u4, u5, u6, u7, u8, u9, u10, u11]]) W := by
  obtain ⟨a0, a1, a2, a3⟩ := row4 h1
  have b0 := cell_of_row _ _ 0 _ _ _ h2
  have b1 := cell_of_row _ _ 1 _ _ _ h2
  have b2 := cell_of_row _ _ 2 _ _ _ h2
  have b3 := cell_of_row _ _ 3 _ _ _ h2
  have b4 := cell_of_row _ _ 4 _ _ _ h2
  have b5 := cell_of_row _ _ 5 _ _ _ h2
  have b6 := cell_of_row _ _ 6 _ _ _ h2
  have b7 := cell_of_row _ _ 7 _ _ _ h2
  have b8 := cell_of_row _ _ 8 _ _ _ h2
  have b9 := cell_of_row _ _ 9 _ _ _ h2
  have b10 := cell_of_row _ _ 10 _ _ _ h2
  have b11 := cell_of_row _ _ 11 _ _ _ h2
  simp [results, h, go_sem, hp, he, a0, a1, a2, a3, b0, b1, b2, b3, b4, b5, b6, b7, b8, b9, b10, b11]
@[reducible] def qB (b o c : Nat) (z : Int) (a1 a2 a3 : Value) : List Obj := [.cells (pC b o c z) 99, .cells pZ 99, .cells #[.int .i64 0, .string ⟨#[]⟩, .slice none 0 0, .slice none 0 0, .slice none 0 0, .bool false, .slice none 0 0, .slice none 0 0, .slice none 0 0, .slice none 0 0, .slice none 0 0, .int .i64 0] 33, .cells (stR a1 a2 a3) 33]
theorem qB.z {w W : World} {b o c : Nat} {z : Int} {a1 a2 a3 : Value} (h : BX w (qB b o c z a1 a2 a3) W) (z2 : Int) : BX w (qB b o c z2 a1 a2 a3) ((((W.setCell ⟨w.heap.size, 0, none⟩ (.slice (some ⟨b, o, none⟩) 15 c)).setCell ⟨w.heap.size, 1, none⟩ (.int .i64 z2)).setCell ⟨w.heap.size, 2, none⟩ (.int .i64 0)).setCell ⟨w.heap.size, 3, none⟩ (.int .i64 0)) := h.setP (k := 0) rfl b o c z2
theorem qB.s5 {w W : World} {b o c : Nat} {z : Int} {a1 a2 a3 : Value} (h : BX w (qB b o c z a1 a2 a3) W) : BX w (qB b o c z a1 a2 a3) (W.setCell ⟨w.heap.size + 1 + 1 + 1, 5, none⟩ (.bool false)) := h.set (k := 3) rfl 5 (.bool false)
theorem qB.s6 {w W : World} {b o c : Nat} {z : Int} {a1 a2 a3 : Value} (h : BX w (qB b o c z a1 a2 a3) W) (v : Value) : BX w (qB b o c z v a2 a3) (W.setCell ⟨w.heap.size + 1 + 1 + 1, 6, none⟩ v) := h.set (k := 3) rfl 6 v
theorem qB.s7 {w W : World} {b o c : Nat} {z : Int} {a1 a2 a3 : Value} (h : BX w (qB b o c z a1 a2 a3) W) (v : Value) : BX w (qB b o c z a1 v a3) (W.setCell ⟨w.heap.size + 1 + 1 + 1, 7, none⟩ v) := h.set (k := 3) rfl 7 v
theorem qB.s8 {w W : World} {b o c : Nat} {z : Int} {a1 a2 a3 : Value} (h : BX w (qB b o c z a1 a2 a3) W) (v : Value) : BX w (qB b o c z a1 a2 v) (W.setCell ⟨w.heap.size + 1 + 1 + 1, 8, none⟩ v) := h.set (k := 3) rfl 8 v
theorem qF.z {w W0 W : World} (h : Far (w.heap.size + 4) W0 W) {b o c : Nat} (z2 : Int) : Far (w.heap.size + 4) W0 ((((W.setCell ⟨w.heap.size, 0, none⟩ (.slice (some ⟨b, o, none⟩) 15 c)).setCell ⟨w.heap.size, 1, none⟩ (.int .i64 z2)).setCell ⟨w.heap.size, 2, none⟩ (.int .i64 0)).setCell ⟨w.heap.size, 3, none⟩ (.int .i64 0)) := h.set4 (b := w.heap.size) (by omega) _ _ _ _
theorem qF.s {w W0 W : World} (h : Far (w.heap.size + 4) W0 W) (i : Nat) (v : Value) : Far (w.heap.size + 4) W0 (W.setCell ⟨w.heap.size + 1 + 1 + 1, i, none⟩ v) := h.set (b := w.heap.size + 1 + 1 + 1) (by omega) v
theorem qO.z {w W : World} {e K n : Nat} {v : Value} {xs : List Value} (h : W.ownsRow (w.heap.size + 4) e K v n xs) {b o c : Nat} (z2 : Int) : World.ownsRow ((((W.setCell ⟨w.heap.size, 0, none⟩ (.slice (some ⟨b, o, none⟩) 15 c)).setCell ⟨w.heap.size, 1, none⟩ (.int .i64 z2)).setCell ⟨w.heap.size, 2, none⟩ (.int .i64 0)).setCell ⟨w.heap.size, 3, none⟩ (.int .i64 0)) (w.heap.size + 4) e K v n xs := own_far (own_far (own_far (own_far h (by omega) _) (by omega) _) (by omega) _) (by omega) _
theorem qO.s {w W : World} {e K n : Nat} {v : Value} {xs : List Value} (h : W.ownsRow (w.heap.size + 4) e K v n xs) (i : Nat) (u : Value) : (W.setCell ⟨w.heap.size + 1 + 1 + 1, i, none⟩ u).ownsRow (w.heap.size + 4) e K v n xs := own_far h (by omega) u

set_option maxHeartbeats 64000000 in
theorem query_one (b o c : Nat) (w : World) (hT : TksAt w b o) (Φ Ψ : Ex → Prop) (hE : ∀ W, Below w.heap.size w W → Calls Tryz.prog 79 #[pV b o c 1] W (LP Φ b o c 2 W)) (hWh : ∀ W, Below w.heap.size w W → Calls Tryz.prog 59 #[pV b o c 6, .slice none 0 0] W (LP Ψ b o c 14 W)) :
    Calls Tryz.prog 54 #[pV b o c 1] w (fun e w' => ∃ (A1 A2 A3 : Option Addr) (k : Nat) (x y : Ex), e = .returned (.tuple #[pV b o c 14, .agg (stR (.slice A1 1 1) (.slice A2 2 k) (.slice A3 1 1))]) ∧ Below w.heap.size w w' ∧ SX w.heap.size w' A1 x ∧ w'.ownsRow w.heap.size 60 2 (.slice A2 2 k) 2 [.string wT, .string wT, .string wU, .string wU] ∧ SX w.heap.size w' A3 y ∧ Φ x ∧ Ψ y) := by
  have HMay := Lib.hid (show ∀ W, Below w.heap.size w W → Calls Tryz.prog 31 #[pV b o c 1, .string ⟨#[42]⟩] W (RetV (.tuple #[pV b o c 1, .bool false]) W) from fun W hB => may_no b o c 1 1 rfl _ W (hT.keep hB) (by omega) (by decide +kernel))
  have HMust := Lib.hid (show ∀ W, Below w.heap.size w W → Calls Tryz.prog 55 #[pV b o c 2, .string ⟨#[70, 82, 79, 77]⟩] W (RetV (pV b o c 3) W) from fun W hB => must_yes b o c 2 2 rfl _ W (hT.keep hB) (by omega) (by decide +kernel))
  have HTab := Lib.hid (show ∀ W, Below w.heap.size w W → _ from fun W hB => tables_two b o c W (hT.keep hB))
  have HE := Lib.hid hE
  have HW := Lib.hid hWh
  have HG := Lib.hid (show ∀ W, Below w.heap.size w W → Calls Tryz.prog 53 #[pV b o c 14, .string ⟨#[71, 82, 79, 85, 80]⟩] W (RetV (.bool false) W) from fun W hB => by have := next_any b o c 14 14 rfl ⟨#[71, 82, 79, 85, 80]⟩ W (hT.keep hB) (by omega); rwa [show nx 14 ⟨#[71, 82, 79, 85, 80]⟩ = false by decide +kernel] at this)
  have HO := Lib.hid (show ∀ W, Below w.heap.size w W → Calls Tryz.prog 53 #[pV b o c 14, .string ⟨#[79, 82, 68, 69, 82]⟩] W (RetV (.bool false) W) from fun W hB => by have := next_any b o c 14 14 rfl ⟨#[79, 82, 68, 69, 82]⟩ W (hT.keep hB) (by omega); rwa [show nx 14 ⟨#[79, 82, 68, 69, 82]⟩ = false by decide +kernel] at this)
  have HL := Lib.hid (show ∀ W, Below w.heap.size w W → Calls Tryz.prog 53 #[pV b o c 14, .string ⟨#[76, 73, 77, 73, 84]⟩] W (RetV (.bool false) W) from fun W hB => by have := next_any b o c 14 14 rfl ⟨#[76, 73, 77, 73, 84]⟩ W (hT.keep hB) (by omega); rwa [show nx 14 ⟨#[76, 73, 77, 73, 84]⟩ = false by decide +kernel] at this)
  clear hT hE hWh
  go_enter Tryz.func54, Tryz.ntmps54
  go_wp2_with (first
    | (go_at_call 31; (with_reducible refine Calls.mono (HMay.out _ (BX.four w _ _ _ _).below) ?_); rintro e w2 ⟨rfl, hB⟩
       have H2 := Lib.hid (show BX w (qB b o c 1 (.slice none 0 0) (.slice none 0 0) (.slice none 0 0)) w2 from (BX.four w _ _ _ _).keep hB)
       clear hB
       obtain ⟨la, ra0, ra1, ra2, ra3, fa0, fa1, fa2, fa3⟩ := H2.out.p4 0 rfl
       simp only [Nat.add_zero] at la ra0 ra1 ra2 ra3 fa0 fa1 fa2 fa3
       obtain ⟨ld, sd0, sd1, sd2, sd3, sd4, sd5, sd6, sd7, sd8, sd9, sd10, sd11, gd0, gd1, gd2, gd3, gd4, gd5, gd6, gd7, gd8, gd9, gd10, gd11⟩ := H2.out.s12 3 rfl
       simp only [plus3] at ld sd0 sd1 sd2 sd3 sd4 sd5 sd6 sd7 sd8 sd9 sd10 sd11 gd0 gd1 gd2 gd3 gd4 gd5 gd6 gd7 gd8 gd9 gd10 gd11
)
    | (go_at_call 79; (with_reducible refine Calls.mono (HE.out _ ?hbw) ?_); (case hbw => exact (qB.s5 (qB.z H2.out 1)).below); rintro e w3 ⟨A1, x, rfl, hB, hS, hP⟩
       have H3 := Lib.hid ((qB.s5 (qB.z H2.out 1)).keep hB)
       have SA3 := Lib.hid (hS.mono (m := w.heap.size + 4) (by have := H2.out.size 3 (by simp); simp only [World.size_setCell]; omega))
       have HP := Lib.hid hP
       clear hB hS hP la ra0 ra1 ra2 ra3 fa0 fa1 fa2 fa3 ld sd0 sd1 sd2 sd3 sd4 sd5 sd6 sd7 sd8 sd9 sd10 sd11 gd0 gd1 gd2 gd3 gd4 gd5 gd6 gd7 gd8 gd9 gd10 gd11
       obtain ⟨la, ra0, ra1, ra2, ra3, fa0, fa1, fa2, fa3⟩ := H3.out.p4 0 rfl
       simp only [Nat.add_zero] at la ra0 ra1 ra2 ra3 fa0 fa1 fa2 fa3
       obtain ⟨ld, sd0, sd1, sd2, sd3, sd4, sd5, sd6, sd7, sd8, sd9, sd10, sd11, gd0, gd1, gd2, gd3, gd4, gd5, gd6, gd7, gd8, gd9, gd10, gd11⟩ := H3.out.s12 3 rfl
       simp only [plus3] at ld sd0 sd1 sd2 sd3 sd4 sd5 sd6 sd7 sd8 sd9 sd10 sd11 gd0 gd1 gd2 gd3 gd4 gd5 gd6 gd7 gd8 gd9 gd10 gd11
)
    | (go_at_call 55; (with_reducible refine Calls.mono (HMust.out _ ?hbw) ?_); (case hbw => exact (qB.s6 (qB.z H3.out 2) (.slice A1 1 1)).below); rintro e w4 ⟨rfl, hB⟩
       have H4 := Lib.hid ((qB.s6 (qB.z H3.out 2) (.slice A1 1 1)).keep hB)
       have SA4 := Lib.hid (SA3.out.far ((qF.s (qF.z (Far.refl _ w3) 2) 6 (.slice A1 1 1)).keep hB))
       clear hB la ra0 ra1 ra2 ra3 fa0 fa1 fa2 fa3 ld sd0 sd1 sd2 sd3 sd4 sd5 sd6 sd7 sd8 sd9 sd10 sd11 gd0 gd1 gd2 gd3 gd4 gd5 gd6 gd7 gd8 gd9 gd10 gd11)
    | (go_at_call 80; (with_reducible refine Calls.mono (HTab.out _ H4.out.below) ?_); rintro e w5 ⟨A2, k2, rfl, hB, hO⟩
       have H5 := Lib.hid (H4.out.keep hB)
       have SA5 := Lib.hid (SA4.out.far ((Far.refl _ w4).keep hB))
       have OW5 := Lib.hid (own_low (base' := w.heap.size + 4) hO (by have := H4.out.size 3 (by simp); omega))
       clear hB hO
       obtain ⟨la, ra0, ra1, ra2, ra3, fa0, fa1, fa2, fa3⟩ := H5.out.p4 0 rfl
       simp only [Nat.add_zero] at la ra0 ra1 ra2 ra3 fa0 fa1 fa2 fa3
       obtain ⟨ld, sd0, sd1, sd2, sd3, sd4, sd5, sd6, sd7, sd8, sd9, sd10, sd11, gd0, gd1, gd2, gd3, gd4, gd5, gd6, gd7, gd8, gd9, gd10, gd11⟩ := H5.out.s12 3 rfl
       simp only [plus3] at ld sd0 sd1 sd2 sd3 sd4 sd5 sd6 sd7 sd8 sd9 sd10 sd11 gd0 gd1 gd2 gd3 gd4 gd5 gd6 gd7 gd8 gd9 gd10 gd11
)
    | (go_at_call 59; (with_reducible refine Calls.mono (HW.out _ ?hbw) ?_); (case hbw => exact (qB.s8 (qB.s7 (qB.z H5.out 6) (.slice A2 2 k2)) (.slice none 0 0)).below); rintro e w6 ⟨A3, y, rfl, hB, hS, hQ⟩
       have H6 := Lib.hid ((qB.s8 (qB.s7 (qB.z H5.out 6) (.slice A2 2 k2)) (.slice none 0 0)).keep hB)
       have SA6 := Lib.hid (SA5.out.far ((qF.s (qF.s (qF.z (Far.refl _ w5) 6) 7 (.slice A2 2 k2)) 8 (.slice none 0 0)).keep hB))
       have OW6 := Lib.hid (own_kept (qO.s (qO.s (qO.z OW5.out 6) 7 (.slice A2 2 k2)) 8 (.slice none 0 0)) hB (Nat.le_refl _))
       have SW6 := Lib.hid (hS.mono (m := w.heap.size + 4) (by have := H5.out.size 3 (by simp); simp only [World.size_setCell]; omega))
       have HQ := Lib.hid hQ
       clear hB hS hQ la ra0 ra1 ra2 ra3 fa0 fa1 fa2 fa3 ld sd0 sd1 sd2 sd3 sd4 sd5 sd6 sd7 sd8 sd9 sd10 sd11 gd0 gd1 gd2 gd3 gd4 gd5 gd6 gd7 gd8 gd9 gd10 gd11
       obtain ⟨la, ra0, ra1, ra2, ra3, fa0, fa1, fa2, fa3⟩ := H6.out.p4 0 rfl
       simp only [Nat.add_zero] at la ra0 ra1 ra2 ra3 fa0 fa1 fa2 fa3
       obtain ⟨ld, sd0, sd1, sd2, sd3, sd4, sd5, sd6, sd7, sd8, sd9, sd10, sd11, gd0, gd1, gd2, gd3, gd4, gd5, gd6, gd7, gd8, gd9, gd10, gd11⟩ := H6.out.s12 3 rfl
       simp only [plus3] at ld sd0 sd1 sd2 sd3 sd4 sd5 sd6 sd7 sd8 sd9 sd10 sd11 gd0 gd1 gd2 gd3 gd4 gd5 gd6 gd7 gd8 gd9 gd10 gd11
)
    | (go_at_call 53; (with_reducible refine Calls.mono (HG.out _ ?hbw) ?_); (case hbw => exact (qB.s8 (qB.z H6.out 14) (.slice A3 1 1)).below); rintro e w7 ⟨rfl, hB⟩
       have H7 := Lib.hid ((qB.s8 (qB.z H6.out 14) (.slice A3 1 1)).keep hB)
       have hf := (qF.s (qF.z (Far.refl _ w6) 14) 8 (.slice A3 1 1)).keep hB
       have SA7 := Lib.hid (SA6.out.far hf)
       have SW7 := Lib.hid (SW6.out.far hf)
       have OW7 := Lib.hid (own_kept (qO.s (qO.z OW6.out 14) 8 (.slice A3 1 1)) hB (Nat.le_refl _))
       clear hB hf la ra0 ra1 ra2 ra3 fa0 fa1 fa2 fa3 ld sd0 sd1 sd2 sd3 sd4 sd5 sd6 sd7 sd8 sd9 sd10 sd11 gd0 gd1 gd2 gd3 gd4 gd5 gd6 gd7 gd8 gd9 gd10 gd11
       obtain ⟨la, ra0, ra1, ra2, ra3, fa0, fa1, fa2, fa3⟩ := H7.out.p4 0 rfl
       simp only [Nat.add_zero] at la ra0 ra1 ra2 ra3 fa0 fa1 fa2 fa3
)
    | (go_at_call 53; (with_reducible refine Calls.mono (HO.out _ H7.out.below) ?_); rintro e w8 ⟨rfl, hB⟩
       have H8 := Lib.hid (H7.out.keep hB)
       have hf := (Far.refl (w.heap.size + 4) w7).keep hB
       have SA8 := Lib.hid (SA7.out.far hf)
       have SW8 := Lib.hid (SW7.out.far hf)
       have OW8 := Lib.hid (own_kept OW7.out hB (Nat.le_refl _))
       clear hB hf la ra0 ra1 ra2 ra3 fa0 fa1 fa2 fa3
       obtain ⟨la, ra0, ra1, ra2, ra3, fa0, fa1, fa2, fa3⟩ := H8.out.p4 0 rfl
       simp only [Nat.add_zero] at la ra0 ra1 ra2 ra3 fa0 fa1 fa2 fa3
)
    | (go_at_call 53; (with_reducible refine Calls.mono (HL.out _ H8.out.below) ?_); rintro e w9 ⟨rfl, hB⟩
       have H9 := Lib.hid (H8.out.keep hB)
       have hf := (Far.refl (w.heap.size + 4) w8).keep hB
       have SA9 := Lib.hid (SA8.out.far hf)
       have SW9 := Lib.hid (SW8.out.far hf)
       have OW9 := Lib.hid (own_kept OW8.out hB (Nat.le_refl _))
       clear hB hf la ra0 ra1 ra2 ra3 fa0 fa1 fa2 fa3
       obtain ⟨la, ra0, ra1, ra2, ra3, fa0, fa1, fa2, fa3⟩ := H9.out.p4 0 rfl
       simp only [Nat.add_zero] at la ra0 ra1 ra2 ra3 fa0 fa1 fa2 fa3
       obtain ⟨lb, rb0, rb1, rb2, rb3, fb0, fb1, fb2, fb3⟩ := H9.out.p4 1 rfl
       obtain ⟨lc, sc0, sc1, sc2, sc3, sc4, sc5, sc6, sc7, sc8, sc9, sc10, sc11, gc0, gc1, gc2, gc3, gc4, gc5, gc6, gc7, gc8, gc9, gc10, gc11⟩ := H9.out.s12 2 rfl
       simp only [plus2] at lc sc0 sc1 sc2 sc3 sc4 sc5 sc6 sc7 sc8 sc9 sc10 sc11 gc0 gc1 gc2 gc3 gc4 gc5 gc6 gc7 gc8 gc9 gc10 gc11
       obtain ⟨ld, sd0, sd1, sd2, sd3, sd4, sd5, sd6, sd7, sd8, sd9, sd10, sd11, gd0, gd1, gd2, gd3, gd4, gd5, gd6, gd7, gd8, gd9, gd10, gd11⟩ := H9.out.s12 3 rfl
       simp only [plus3] at ld sd0 sd1 sd2 sd3 sd4 sd5 sd6 sd7 sd8 sd9 sd10 sd11 gd0 gd1 gd2 gd3 gd4 gd5 gd6 gd7 gd8 gd9 gd10 gd11
)
    | fail)
  go_region
  all_goals (
    rename_i K hK
    have HF := ((H9.out.setP (k := 1) rfl b o c 14).set12 (k := 2) (v0 := .int .i64 1) (v1 := .string ⟨#[]⟩) (v2 := .slice none 0 0) (v3 := .slice none 0 0) (v4 := .slice none 0 0) (v5 := .bool false) (v6 := .slice A1 1 1) (v7 := .slice A2 2 k2) (v8 := .slice A3 1 1) (v9 := .slice none 0 0) (v10 := .slice none 0 0) (v11 := .int .i64 (-1)) rfl).drew
    have hfar := ((((((((((((((Far.refl (w.heap.size + 4) w9).set4 (b := w.heap.size + 1) (by omega) (.slice (some ⟨b, o, none⟩) 15 c) (.int .i64 14) (.int .i64 0) (.int .i64 0)).set (b := w.heap.size + 2) (i := 0) (by omega) (.int .i64 1)).set (b := w.heap.size + 2) (i := 1) (by omega) (.string ⟨#[]⟩)).set (b := w.heap.size + 2) (i := 2) (by omega) (.slice none 0 0)).set (b := w.heap.size + 2) (i := 3) (by omega) (.slice none 0 0)).set (b := w.heap.size + 2) (i := 4) (by omega) (.slice none 0 0)).set (b := w.heap.size + 2) (i := 5) (by omega) (.bool false)).set (b := w.heap.size + 2) (i := 6) (by omega) (.slice A1 1 1)).set (b := w.heap.size + 2) (i := 7) (by omega) (.slice A2 2 k2)).set (b := w.heap.size + 2) (i := 8) (by omega) (.slice A3 1 1)).set (b := w.heap.size + 2) (i := 9) (by omega) (.slice none 0 0)).set (b := w.heap.size + 2) (i := 10) (by omega) (.slice none 0 0)).set (b := w.heap.size + 2) (i := 11) (by omega) (.int .i64 (-1))).drew
    have hown := own_low (base' := w.heap.size) (own_kept (own_far (own_far (own_far (own_far (own_far (own_far (own_far (own_far (own_far (own_far (own_far (own_far (own_far (own_far (own_far (own_far OW9.out (b := w.heap.size + 1) (i := 0) (by omega) (.slice (some ⟨b, o, none⟩) 15 c)) (b := w.heap.size + 1) (i := 1) (by omega) (.int .i64 14)) (b := w.heap.size + 1) (i := 2) (by omega) (.int .i64 0)) (b := w.heap.size + 1) (i := 3) (by omega) (.int .i64 0)) (b := w.heap.size + 2) (i := 0) (by omega) (.int .i64 1)) (b := w.heap.size + 2) (i := 1) (by omega) (.string ⟨#[]⟩)) (b := w.heap.size + 2) (i := 2) (by omega) (.slice none 0 0)) (b := w.heap.size + 2) (i := 3) (by omega) (.slice none 0 0)) (b := w.heap.size + 2) (i := 4) (by omega) (.slice none 0 0)) (b := w.heap.size + 2) (i := 5) (by omega) (.bool false)) (b := w.heap.size + 2) (i := 6) (by omega) (.slice A1 1 1)) (b := w.heap.size + 2) (i := 7) (by omega) (.slice A2 2 k2)) (b := w.heap.size + 2) (i := 8) (by omega) (.slice A3 1 1)) (b := w.heap.size + 2) (i := 9) (by omega) (.slice none 0 0)) (b := w.heap.size + 2) (i := 10) (by omega) (.slice none 0 0)) (b := w.heap.size + 2) (i := 11) (by omega) (.int .i64 (-1))) (Below.refl _ _).drew (Nat.le_refl _)) (by omega)
    exact hK _ _ (wp_ret (bodyPost_ret (res_pt (fn := Tryz.f54) rfl rfl rfl (HF.row 1 _ _ rfl) (HF.row 2 _ _ rfl)) rfl ⟨A1, A2, A3, k2, x, y, rfl, HF.below, (SA9.out.far hfar).mono (by omega), hown, (SW9.out.far hfar).mono (by omega), HP.out, HQ.out⟩)))
end Go.Proofs.YthdmfaepjemopaaGreatDoor
namespace Go.Proofs.YthdmfaepjemopaaGreatDoor
open Go.RowKit

def QP (Φ Ψ : Ex → Prop) (b o c : Nat) (w : World) (e : Ending) (w' : World) : Prop := ∃ (A1 A2 A3 : Option Addr) (k : Nat) (x y : Ex), e = .returned (.tuple #[pV b o c 14, .agg (stR (.slice A1 1 1) (.slice A2 2 k) (.slice A3 1 1))]) ∧ Below w.heap.size w w' ∧ SX w.heap.size w' A1 x ∧ w'.ownsRow w.heap.size 60 2 (.slice A2 2 k) 2 [.string wT, .string wT, .string wU, .string wU] ∧ SX w.heap.size w' A3 y ∧ Φ x ∧ Ψ y
set_option maxHeartbeats 64000000 in
theorem statement_one (b o c : Nat) (w : World) (hT : TksAt w b o) (Φ Ψ : Ex → Prop) (hQ : ∀ W, Below w.heap.size w W → Calls Tryz.prog 54 #[pV b o c 1] W (QP Φ Ψ b o c W)) : Calls Tryz.prog 30 #[pV b o c 0] w (QP Φ Ψ b o c w) := by
  have HN := Lib.hid (show ∀ W, Below w.heap.size w W → Calls Tryz.prog 53 #[pV b o c 0, .string ⟨#[83, 69, 76, 69, 67, 84]⟩] W (RetV (.bool true) W) from fun W hB => by have := next_any b o c 0 0 rfl ⟨#[83, 69, 76, 69, 67, 84]⟩ W (hT.keep hB) (by omega); rwa [show nx 0 ⟨#[83, 69, 76, 69, 67, 84]⟩ = true by decide +kernel] at this)
  have HM := Lib.hid (show ∀ W, Below w.heap.size w W → Calls Tryz.prog 55 #[pV b o c 0, .string ⟨#[83, 69, 76, 69, 67, 84]⟩] W (RetV (pV b o c 1) W) from fun W hB => must_yes b o c 0 0 rfl _ W (hT.keep hB) (by omega) (by decide +kernel))
  have HQ := Lib.hid hQ
  clear hT hQ
  go_enter Tryz.func30, Tryz.ntmps30
  go_wp2_with (first
    | (go_at_call 53; (with_reducible refine Calls.mono (HN.out _ (BX.four w _ _ _ _).below) ?_); rintro e w2 ⟨rfl, hB⟩
       have H2 := Lib.hid ((BX.four w _ _ _ _).keep hB)
       clear hB
       obtain ⟨la, ra0, ra1, ra2, ra3, fa0, fa1, fa2, fa3⟩ := H2.out.p4 0 rfl
       simp only [Nat.add_zero] at la ra0 ra1 ra2 ra3 fa0 fa1 fa2 fa3
)
    | (go_at_call 55; (with_reducible refine Calls.mono (HM.out _ H2.out.below) ?_); rintro e w3 ⟨rfl, hB⟩
       have H3 := Lib.hid (H2.out.keep hB)
       clear hB la ra0 ra1 ra2 ra3 fa0 fa1 fa2 fa3)
    | (go_at_call 54; (with_reducible refine Calls.mono (HQ.out _ H3.out.below) ?_); rintro e w4 ⟨A1, A2, A3, k2, x, y, rfl, hB, hS, hO, hS2, hP, hP2⟩
       have H4 := Lib.hid (H3.out.keep hB)
       have hz := H3.out.size 3 (by simp)
       have SA4 := Lib.hid (hS.mono (m := w.heap.size + 4) (by omega))
       have SW4 := Lib.hid (hS2.mono (m := w.heap.size + 4) (by omega))
       have OW4 := Lib.hid (own_low (base' := w.heap.size + 4) hO (by omega))
       have HP := Lib.hid hP
       have HP2 := Lib.hid hP2
       clear hz hB hS hO hS2 hP hP2
       obtain ⟨lb, rb0, rb1, rb2, rb3, fb0, fb1, fb2, fb3⟩ := H4.out.p4 1 rfl
       obtain ⟨lc, sc0, sc1, sc2, sc3, sc4, sc5, sc6, sc7, sc8, sc9, sc10, sc11, gc0, gc1, gc2, gc3, gc4, gc5, gc6, gc7, gc8, gc9, gc10, gc11⟩ := H4.out.s12 2 rfl
       simp only [plus2] at lc sc0 sc1 sc2 sc3 sc4 sc5 sc6 sc7 sc8 sc9 sc10 sc11 gc0 gc1 gc2 gc3 gc4 gc5 gc6 gc7 gc8 gc9 gc10 gc11
)
    | fail)
  have HF := (H4.out.setP (k := 1) rfl b o c 14).set12 (k := 2) (v0 := .int .i64 1) (v1 := .string ⟨#[]⟩) (v2 := .slice none 0 0) (v3 := .slice none 0 0) (v4 := .slice none 0 0) (v5 := .bool false) (v6 := .slice A1 1 1) (v7 := .slice A2 2 k2) (v8 := .slice A3 1 1) (v9 := .slice none 0 0) (v10 := .slice none 0 0) (v11 := .int .i64 (-1)) rfl
  have hfar := ((((((((((((((Far.refl (w.heap.size + 4) w4).set4 (b := w.heap.size + 1) (by omega) (.slice (some ⟨b, o, none⟩) 15 c) (.int .i64 14) (.int .i64 0) (.int .i64 0)).set (b := w.heap.size + 2) (i := 0) (by omega) (.int .i64 1)).set (b := w.heap.size + 2) (i := 1) (by omega) (.string ⟨#[]⟩)).set (b := w.heap.size + 2) (i := 2) (by omega) (.slice none 0 0)).set (b := w.heap.size + 2) (i := 3) (by omega) (.slice none 0 0)).set (b := w.heap.size + 2) (i := 4) (by omega) (.slice none 0 0)).set (b := w.heap.size + 2) (i := 5) (by omega) (.bool false)).set (b := w.heap.size + 2) (i := 6) (by omega) (.slice A1 1 1)).set (b := w.heap.size + 2) (i := 7) (by omega) (.slice A2 2 k2)).set (b := w.heap.size + 2) (i := 8) (by omega) (.slice A3 1 1)).set (b := w.heap.size + 2) (i := 9) (by omega) (.slice none 0 0)).set (b := w.heap.size + 2) (i := 10) (by omega) (.slice none 0 0)).set (b := w.heap.size + 2) (i := 11) (by omega) (.int .i64 (-1)))
  have hown := own_low (base' := w.heap.size) (own_far (own_far (own_far (own_far (own_far (own_far (own_far (own_far (own_far (own_far (own_far (own_far (own_far (own_far (own_far (own_far OW4.out (b := w.heap.size + 1) (i := 0) (by omega) (.slice (some ⟨b, o, none⟩) 15 c)) (b := w.heap.size + 1) (i := 1) (by omega) (.int .i64 14)) (b := w.heap.size + 1) (i := 2) (by omega) (.int .i64 0)) (b := w.heap.size + 1) (i := 3) (by omega) (.int .i64 0)) (b := w.heap.size + 2) (i := 0) (by omega) (.int .i64 1)) (b := w.heap.size + 2) (i := 1) (by omega) (.string ⟨#[]⟩)) (b := w.heap.size + 2) (i := 2) (by omega) (.slice none 0 0)) (b := w.heap.size + 2) (i := 3) (by omega) (.slice none 0 0)) (b := w.heap.size + 2) (i := 4) (by omega) (.slice none 0 0)) (b := w.heap.size + 2) (i := 5) (by omega) (.bool false)) (b := w.heap.size + 2) (i := 6) (by omega) (.slice A1 1 1)) (b := w.heap.size + 2) (i := 7) (by omega) (.slice A2 2 k2)) (b := w.heap.size + 2) (i := 8) (by omega) (.slice A3 1 1)) (b := w.heap.size + 2) (i := 9) (by omega) (.slice none 0 0)) (b := w.heap.size + 2) (i := 10) (by omega) (.slice none 0 0)) (b := w.heap.size + 2) (i := 11) (by omega) (.int .i64 (-1))) (by omega)
  exact bodyPost_ret (res_pt (fn := Tryz.f30) rfl rfl rfl (HF.row 1 _ _ rfl) (HF.row 2 _ _ rfl)) rfl ⟨A1, A2, A3, k2, x, y, rfl, HF.below, (SA4.out.far hfar).mono (by omega), hown, (SW4.out.far hfar).mono (by omega), HP.out, HP2.out⟩
end Go.Proofs.YthdmfaepjemopaaGreatDoor
namespace Go.Proofs.YthdmfaepjemopaaGreatDoor
open Go.RowKit

theorem btr {w W W2 : World} (h1 : Below w.heap.size w W) (h2 : Below W.heap.size W W2) : Below w.heap.size w W2 := h1.trans (h2.mono h1.size)
theorem expr5_at {Φ : Ex → Prop} (b o c i j : Nat) (z zz : Int) (hz : z = i) (hzz : zz = j) (s : ByteArray) (p : Int) (w : World) (hT : TksAt w b o) (ht : tks[i]? = some (1, s, p)) (hj : j < 15) (n6 : nx j ⟨#[42]⟩ = false) (n5 : nx j ⟨#[43]⟩ = false) (n5b : nx j ⟨#[45]⟩ = false) (d : Int)
    (hC : ∀ W, Below w.heap.size w W → Calls Tryz.prog 81 #[pV b o c z] W (XP Φ b o c zz W)) : ∀ W, Below w.heap.size w W → Calls Tryz.prog 84 #[pV b o c z, .int .i64 5, .int .i64 d] W (XP Φ b o c zz W) := fun W hB =>
  expr5 b o c z W Φ zz d
    (fun W2 h2 => expr6 b o c z W2 Φ zz d
      (fun W3 h3 => expr7 b o c z W3 Φ zz d fun W4 h4 => single_col b o c i z hz s p W4 (hT.keep (btr (btr (btr hB h2) h3) h4)) ht Φ zz d fun W5 h5 => hC W5 (btr (btr (btr (btr hB h2) h3) h4) h5))
      (fun W3 h3 => binary6 b o c j zz hzz W3 (hT.keep (btr (btr hB h2) h3)) hj n6))
    (fun W2 h2 => binary5 b o c j zz hzz W2 (hT.keep (btr hB h2)) hj n5 n5b)
theorem expr1_of {Φ : Ex → Prop} (b o c j : Nat) (z zz : Int) (hzz : zz = j) (w : World) (hT : TksAt w b o) (hj : j < 15) (n1 : nx j ⟨#[79, 82]⟩ = false) (n2 : nx j ⟨#[65, 78, 68]⟩ = false) (d : Int)
    (hC : ∀ W, Below w.heap.size w W → Calls Tryz.prog 95 #[pV b o c z, .int .i64 d] W (XP Φ b o c zz W)) : ∀ W, Below w.heap.size w W → Calls Tryz.prog 84 #[pV b o c z, .int .i64 1, .int .i64 d] W (XP Φ b o c zz W) := fun W hB =>
  expr1 b o c z W Φ zz d
    (fun W2 h2 => expr2 b o c z W2 Φ zz d
      (fun W3 h3 => expr3 b o c z W3 Φ zz d fun W4 h4 => hC W4 (btr (btr (btr hB h2) h3) h4))
      (fun W3 h3 => binary2 b o c j zz hzz W3 (hT.keep (btr (btr hB h2) h3)) hj n2))
    (fun W2 h2 => binary1 b o c j zz hzz W2 (hT.keep (btr hB h2)) hj n1)
theorem next_at (b o c i : Nat) (z : Int) (hz : z = i) (q : ByteArray) (r : Bool) (w : World) (hT : TksAt w b o) (hi : i < 15) (h : nx i q = r) : ∀ W, Below w.heap.size w W → Calls Tryz.prog 53 #[pV b o c z, .string q] W (RetV (.bool r) W) := fun W hB => by
  have := next_any b o c i z hz q W (hT.keep hB) hi
  rwa [h] at this
def wB : ByteArray := ⟨#[98]⟩
def wA : ByteArray := ⟨#[97]⟩
theorem items_at (b o c : Nat) (w : World) (hT : TksAt w b o) : ∀ W, Below w.heap.size w W → Calls Tryz.prog 79 #[pV b o c 1] W (LP (fun x => x = colX ⟨#[]⟩ wB) b o c 2 W) := fun W hB =>
  have hT' := hT.keep hB
  exprs_one b o c 1 W _ 2
    (expr1_of b o c 2 1 2 rfl W hT' (by omega) (by decide +kernel) (by decide +kernel) 0 fun W2 h2 =>
      not_plain b o c 2 1 2 rfl W2 (hT'.keep h2) (by omega) _ 0 (next_at b o c 1 1 rfl _ false W2 (hT'.keep h2) (by omega) (by decide +kernel))
        (expr5_at b o c 1 2 1 2 rfl rfl wB 7 W2 (hT'.keep h2) rfl (by omega) (by decide +kernel) (by decide +kernel) (by decide +kernel) 0 fun W3 h3 => col_xp (col_name b o c 1 1 rfl wB 7 W3 ((hT'.keep h2).keep h3) rfl (by omega) (by decide +kernel)))
        (by decide +kernel) (by decide +kernel) (by decide +kernel) (by decide +kernel) (by decide +kernel) (by decide +kernel) (by decide +kernel))
    (next_at b o c 2 2 rfl _ false W hT' (by omega) (by decide +kernel))
def tst (X : Ex) : Prop := ∃ (A : Option Addr) (k : Nat) (x : Ex), x = colX wT wA ∧ X = .mk 7 ⟨#[61]⟩ zeroV ⟨#[]⟩ ⟨#[]⟩ false A k [x, colX wU wA]
theorem xp_ret {b o c : Nat} {z zz : Int} {y : Ex} {W : World} (h : Calls Tryz.prog 84 #[pV b o c z, .int .i64 5, .int .i64 0] W (XP (fun x => x = y) b o c zz W)) : Calls Tryz.prog 84 #[pV b o c z, .int .i64 5, .int .i64 0] W (RetV (.tuple #[pV b o c zz, exV y]) W) :=
  h.mono fun _e _w' ⟨_x, h1, h2, _, h4⟩ => ⟨h4 ▸ h1, h2⟩
theorem where_at (b o c : Nat) (w : World) (hT : TksAt w b o) : ∀ W, Below w.heap.size w W → Calls Tryz.prog 59 #[pV b o c 6, .slice none 0 0] W (LP tst b o c 14 W) := fun W hB =>
  have hT' := hT.keep hB
  where_one b o c 6 6 rfl W hT' (by omega) (by decide +kernel) tst 14
    (expr1_of b o c 14 (6 + 1) 14 rfl W hT' (by omega) (by decide +kernel) (by decide +kernel) 0 fun W2 h2 =>
      not_cmp b o c 10 (6 + 1) 10 rfl W2 (hT'.keep h2) (by omega) (fun x => x = colX wT wA) 0 (next_at b o c 7 (6 + 1) rfl _ false W2 (hT'.keep h2) (by omega) (by decide +kernel))
        (expr5_at b o c 7 10 (6 + 1) 10 rfl rfl wT 25 W2 (hT'.keep h2) rfl (by omega) (by decide +kernel) (by decide +kernel) (by decide +kernel) 0 fun W3 h3 => col_xp (col_dot b o c 7 (6 + 1) rfl wT wA 25 27 W3 ((hT'.keep h2).keep h3) rfl rfl (by omega) (by decide +kernel)))
        (by decide +kernel) (fun x hx => hx ▸ rfl) (by decide +kernel) (colX wU wA) rfl 14
        (fun W3 h3 => xp_ret (expr5_at b o c 11 14 (10 + 1) 14 rfl rfl wU 31 W3 ((hT'.keep h2).keep h3) rfl (by omega) (by decide +kernel) (by decide +kernel) (by decide +kernel) 0 (fun W4 h4 => col_xp (col_dot b o c 11 (10 + 1) rfl wU wA 31 33 W4 (((hT'.keep h2).keep h3).keep h4) rfl rfl (by omega) (by decide +kernel))) W3 (Below.refl _ _))))
theorem stmt_at (b o c : Nat) (w : World) (hT : TksAt w b o) : Calls Tryz.prog 30 #[pV b o c 0] w (QP (fun x => x = colX ⟨#[]⟩ wB) tst b o c w) :=
  statement_one b o c w hT _ _ fun W hB => query_one b o c W (hT.keep hB) _ _ (fun W2 h2 => items_at b o c W (hT.keep hB) W2 h2) (fun W2 h2 => where_at b o c W (hT.keep hB) W2 h2)
end Go.Proofs.YthdmfaepjemopaaGreatDoor
namespace Go.Proofs.YthdmfaepjemopaaGreatDoor
open Go.RowKit

def kws : List (List UInt8) := [[83, 69, 76, 69, 67, 84], [70, 82, 79, 77], [87, 72, 69, 82, 69], [71, 82, 79, 85, 80], [66, 89], [79, 82, 68, 69, 82], [65, 83, 67], [68, 69, 83, 67], [76, 73, 77, 73, 84], [65, 83], [74, 79, 73, 78], [79, 78], [65, 78, 68], [79, 82], [78, 79, 84], [73, 83], [78, 85, 76, 76], [84, 82, 85, 69], [70, 65, 76, 83, 69], [67, 79, 85, 78, 84], [83, 85, 77], [77, 73, 78], [77, 65, 88], [73, 78, 83, 69, 82, 84], [73, 78, 84, 79], [86, 65, 76, 85, 69, 83], [85, 80, 68, 65, 84, 69], [83, 69, 84], [68, 69, 76, 69, 84, 69], [67, 82, 69, 65, 84, 69], [84, 65, 66, 76, 69], [68, 82, 79, 80], [73, 78, 84], [82, 69, 65, 76], [84, 69, 88, 84]]
def upB (c : UInt8) : UInt8 := if 97 ≤ c && c ≤ 122 then c - 32 else c
def isCap (c : UInt8) : Bool := 65 ≤ c && c ≤ 90
def kwR (l : List UInt8) : List UInt8 := if l.map upB ∈ kws then l.map upB else []
def letP (r : Int) : Bool := decide (r = 95) || (decide (97 ≤ r) && decide (r ≤ 122)) || (decide (65 ≤ r) && decide (r ≤ 90))
def digP (r : Int) : Bool := decide (48 ≤ r) && decide (r ≤ 57)
def blaP (r : Int) : Bool := decide (r = 32) || decide (r = 9) || decide (r = 10) || decide (r = 13)
def namP (r : Int) : Bool := letP r || digP r
def spanR (p : Int → Bool) (l : List UInt8) : Nat := (l.takeWhile (fun b => p (b.toNat : Int))).length
theorem spanR_le (p : Int → Bool) (l : List UInt8) : spanR p l ≤ l.length := by
  unfold spanR
  exact (List.takeWhile_sublist _).length_le
theorem span_stop (p : Int → Bool) {l : List UInt8} {k : Nat} {c : UInt8} (h : ∀ j d, j < k → l[j]? = some d → p (d.toNat : Int) = true) (hc : l[k]? = some c) (hp : p (c.toNat : Int) = false) : spanR p l = k := by
  unfold spanR
  induction l generalizing k with
  | nil => simp at hc
  | cons x l ih =>
    cases k with
    | zero =>
      obtain rfl : x = c := by simpa using hc
      rw [List.takeWhile_cons, if_neg (by rw [hp]; decide)]; rfl
    | succ k =>
      rw [List.takeWhile_cons, if_pos (h 0 x (by omega) rfl), List.length_cons, ih (k := k) (fun j d hj hd => h (j + 1) d (by omega) (by simpa using hd)) (by simpa using hc)]
theorem span_all (p : Int → Bool) {l : List UInt8} (h : ∀ j d, j < l.length → l[j]? = some d → p (d.toNat : Int) = true) : spanR p l = l.length := by
  unfold spanR
  induction l with
  | nil => rfl
  | cons x l ih =>
    rw [List.takeWhile_cons, if_pos (h 0 x (by simp) rfl), List.length_cons, ih (fun j d h1 h2 => h (j + 1) d (by simp; omega) (by simpa using h2)), List.length_cons]
def SameV (v : Value) (w : World) (e : Ending) (w' : World) : Prop := e = .returned v ∧ w = w'
def kindZ (r : Int) : Int := if letP r then 1 else if digP r then 2 else if blaP r then 3 else 0
theorem ret_i {a b : Int} (h : a = b) : Ending.returned (.int .i64 a) = .returned (.int .i64 b) := by rw [h]
theorem kind_any (r : Int) (w : World) : Calls Tryz.prog 51 #[.int .u8 r] w (SameV (.int .i64 (kindZ r)) w) := by
  obtain ⟨b, hb⟩ : ∃ b, b = kindZ r := ⟨_, rfl⟩
  have HB := Lib.hid hb
  rw [← hb]
  clear hb
  go_enter Tryz.func51, Tryz.ntmps51
  go_wp2
  all_goals
    go_ret
    refine ⟨ret_i ?_, rfl⟩
    have hz := HB.out
    clear HB
    subst hz
    try simp only [beq_iff_eq, beq_eq_false_iff_ne, ne_eq] at *
    simp only [kindZ, letP, digP, blaP, Bool.or_eq_true, Bool.and_eq_true, decide_eq_true_iff]
    (repeat' split) <;> omega
theorem kindZ_let {r : Int} (h : letP r = true) : kindZ r = 1 := by simp [kindZ, h]
theorem kindZ_is1 (r : Int) : (kindZ r == 1) = letP r := by
  unfold kindZ
  cases letP r <;> cases digP r <;> cases blaP r <;> rfl
theorem dig_not_let {r : Int} (h : digP r = true) : letP r = false := by
  simp only [digP, Bool.and_eq_true, decide_eq_true_iff] at h
  simp only [letP, Bool.or_eq_false_iff, Bool.and_eq_false_iff, decide_eq_false_iff_not]
  omega
theorem bla_not_dig {r : Int} (h : blaP r = true) : letP r = false ∧ digP r = false := by
  simp only [blaP, Bool.or_eq_true, decide_eq_true_iff] at h
  rcases h with ((h | h) | h) | h <;> subst h <;> decide
theorem kindZ_is2 (r : Int) : (kindZ r == 2) = digP r := by
  cases h : digP r with
  | true => simp [kindZ, h, dig_not_let h]
  | false =>
    unfold kindZ
    rw [h]
    cases letP r <;> cases blaP r <;> rfl
theorem kindZ_is3 (r : Int) : (kindZ r == 3) = blaP r := by
  cases h : blaP r with
  | true => simp [kindZ, h, bla_not_dig h]
  | false =>
    unfold kindZ
    rw [h]
    cases letP r <;> cases digP r <;> rfl
theorem upB_low {c : UInt8} (h1 : 97 ≤ c.toNat) (h2 : c.toNat ≤ 122) : ((upB c).toNat : Int) = (c.toNat : Int) - 32 ∧ isCap (upB c) = true := by
  have e : (97 ≤ c && c ≤ 122) = true := by simp [UInt8.le_iff_toNat_le]; omega
  unfold upB isCap
  rw [if_pos e]
  have h32 : (32 : UInt8) ≤ c := by simp [UInt8.le_iff_toNat_le]; omega
  have hs : (c - 32).toNat = c.toNat - 32 := UInt8.toNat_sub_of_le _ _ h32
  refine ⟨by rw [hs]; omega, ?_⟩
  simp only [UInt8.le_iff_toNat_le, hs, Bool.and_eq_true, decide_eq_true_eq]
  constructor <;> (simp; omega)
theorem upB_other {c : UInt8} (h : ¬ (97 ≤ c.toNat ∧ c.toNat ≤ 122)) : upB c = c := by
  unfold upB
  rw [if_neg]
  simp only [Bool.and_eq_true, decide_eq_true_eq, UInt8.le_iff_toNat_le]
  exact h
def strV (l : List UInt8) : Value := .string ⟨l.toArray⟩
def KwBlk (W : World) (b : Nat) : Prop := W.heap[b]? = some (.cells (kws.map strV).toArray 9 (0, 0))
def WordsP (w : World) (e : Ending) (w' : World) : Prop := e = .returned (.slice (some ⟨w.heap.size, 0, none⟩) 35 35) ∧ KwBlk w' w.heap.size ∧ Below w.heap.size w w'
theorem KwBlk.keep {W w2 : World} {b : Nat} (h : KwBlk W b) (hB : Below W.heap.size W w2) : KwBlk w2 b := (hB.block b (heap_lt h)).trans h
theorem KwBlk.cell {W : World} {b : Nat} (h : KwBlk W b) {j : Nat} {l : List UInt8} (hj : kws[j]? = some l) : W.cell? ⟨b, j, none⟩ = some (.string ⟨l.toArray⟩) := by
  rw [cell_of_row W b j _ _ _ h, List.getElem?_toArray, List.getElem?_map, hj]; rfl
theorem words_any (w : World) : Calls Tryz.prog 91 #[] w (WordsP w) := by
  go_enter Tryz.func91, Tryz.ntmps91
  go_wp2_with fail
  go_ret
  exact ⟨rfl, heap_alloc_new w _, below1 w _⟩
theorem snoc_up (s : ByteArray) (k : Nat) (h : k < s.size) : (⟨((s.data.toList.take k).map upB).toArray⟩ : ByteArray) ++ ⟨#[upB s[k]]⟩ = ⟨((s.data.toList.take (k + 1)).map upB).toArray⟩ := by
  have h2 : s.data.toList[k]? = some s[k] := by
    rw [Array.getElem?_toList]
    exact Array.getElem?_eq_getElem h
  rw [List.take_add_one, h2]
  apply ByteArray.ext
  simp [ByteArray.data_append]
theorem up_size (s : ByteArray) (k : Nat) : (⟨((s.data.toList.take k).map upB).toArray⟩ : ByteArray).size ≤ s.size := by
  show ((s.data.toList.take k).map upB).toArray.size ≤ s.data.size
  simp
  omega
theorem one_text (W : World) (z : Int) (c : UInt8) (hz : z = (c.toNat : Int)) : (convert 94 9 (.slice (some ⟨W.heap.size, 0, none⟩) 1 1)).run Tryz.prog (W.alloc (.cells #[.int .u8 z] 5)) = .ok (.string ⟨#[c]⟩) (W.alloc (.cells #[.int .u8 z] 5)) := by
  subst hz
  exact run_convert_bytes_back (W.alloc (.cells #[.int .u8 (c.toNat : Int)] 5)) 94 9 5 ⟨W.heap.size, 0, none⟩ 1 [c] Tryz.underlying94 Tryz.underlying5 Tryz.underlying9 (fun j hj => by
    obtain rfl : j = 0 := by simp at hj; omega
    rw [Addr.add_lit, Nat.zero_add]
    exact cell_of_row _ _ 0 _ _ _ (heap_alloc_new W _))
theorem rkeyword_any (s : ByteArray) (w : World) (hs : s.size ≤ 200) : Calls Tryz.prog 76 #[.string s] w (RetV (.string ⟨(kwR s.data.toList).toArray⟩) w) := by
  obtain ⟨R, hR⟩ : ∃ R : ByteArray, R = ⟨(kwR s.data.toList).toArray⟩ := ⟨_, rfl⟩
  rw [← hR]
  have HR := Lib.hid hR
  clear hR
  go_enter Tryz.func76, Tryz.ntmps76
  go_wp2_with fail
  go_loopw [3, 4] (fun up i wr => ∃ k : Nat, k ≤ s.size ∧ i = .int .i64 k ∧ up = .string ⟨((s.data.toList.take k).map upB).toArray⟩ ∧ Below w.heap.size w wr) (fun _ i _ => s.size - (intOf i).toNat)
  case atStart => exact ⟨0, Nat.zero_le _, rfl, rfl, Below.refl _ _⟩
  case round =>
    obtain ⟨k, hk, rfl, rfl, hB⟩ := hrel
    obtain ⟨wo, rfl⟩ : ∃ wo : World, wo = wr := ⟨_, rfl⟩
    have HB := Lib.hid hB
    clear hB
    by_cases hlt : k < s.size
    · have HSN := Lib.hid (snoc_up s k hlt)
      have HUS := up_size s k
      obtain ⟨U, hU⟩ : ∃ U : ByteArray, U = ⟨((s.data.toList.take k).map upB).toArray⟩ := ⟨_, rfl⟩
      rw [← hU] at HSN HUS ⊢
      obtain ⟨c, hc⟩ : ∃ c, c = s[k] := ⟨_, rfl⟩
      have HC := Lib.hid hc
      rw [← hc] at HSN
      obtain ⟨V, hV⟩ : ∃ V : ByteArray, V = U ++ ⟨#[upB c]⟩ := ⟨_, rfl⟩
      have HV := Lib.hid (show V = ⟨((s.data.toList.take (k + 1)).map upB).toArray⟩ by rw [hV]; exact HSN.out)
      have hone : (⟨#[upB c]⟩ : ByteArray).size = 1 := rfl
      have hadd : ∀ W, (Op.stringOp .add U ⟨#[upB c]⟩).run Tryz.prog W = .ok (.string V) W := fun W => by rw [hV]; exact add_text W _ _ (by rw [hone]; omega)
      have hc255 : (c.toNat : Int) ≤ 255 := by have := c.toNat_lt; omega
      have hc0 : (0 : Int) ≤ (c.toNat : Int) := by omega
      have hkc : s[k] = c := hc.symm
      clear hU hV hone hc
      by_cases hlow : 97 ≤ c.toNat ∧ c.toNat ≤ 122
      · obtain ⟨hl1, hl2⟩ := hlow
        have hl1' : (97 : Int) ≤ (c.toNat : Int) := by omega
        have hl2' : (c.toNat : Int) ≤ 122 := by omega
        have hcv := one_text wo ((c.toNat : Int) - 97 + 65) (upB c) (by have := (upB_low hl1 hl2).1; omega)
        go_wp2_with fail
        go_roundw
        case rel => exact ⟨k + 1, by omega, by go_num, by rw [HV.out], HB.out.trans ((below1 wo _).mono HB.out.size)⟩
        case measure => simp [intOf] <;> omega
      · have hcv := one_text wo (c.toNat : Int) (upB c) (by rw [upB_other hlow])
        by_cases h97 : 97 ≤ c.toNat
        · have h122 : ¬ (c.toNat : Int) ≤ 122 := by omega
          have h97' : (97 : Int) ≤ (c.toNat : Int) := by omega
          clear hlow h97
          go_wp2_with fail
          go_roundw
          case rel => exact ⟨k + 1, by omega, by go_num, by rw [HV.out], HB.out.trans ((below1 wo _).mono HB.out.size)⟩
          case measure => simp [intOf] <;> omega
        · have h97' : ¬ (97 : Int) ≤ (c.toNat : Int) := by omega
          clear hlow h97
          go_wp2_with fail
          go_roundw
          case rel => exact ⟨k + 1, by omega, by go_num, by rw [HV.out], HB.out.trans ((below1 wo _).mono HB.out.size)⟩
          case measure => simp [intOf] <;> omega
    · have hall : s.data.toList.take k = s.data.toList := List.take_of_length_le (by
        have : s.data.toList.length = s.size := by show _ = s.data.size; simp
        omega)
      rw [hall]
      obtain ⟨u, hu⟩ : ∃ u, u = s.data.toList.map upB := ⟨_, rfl⟩
      rw [← hu]
      have HK := Lib.hid (show kwR s.data.toList = if u ∈ kws then u else [] by unfold kwR; rw [hu])
      obtain ⟨U, hU⟩ : ∃ U : ByteArray, U = ⟨u.toArray⟩ := ⟨_, rfl⟩
      rw [← hU]
      have HU := Lib.hid hU
      clear hall hu hU
      go_wp2_with (first
        | (go_at_call 91; (with_reducible refine (words_any _).mono ?_); rintro e w2 ⟨rfl, hkb, hB2⟩; have HKB := Lib.hid hkb; have HB2 := Lib.hid (HB.out.trans (hB2.mono HB.out.size)); have hlk := heap_lt hkb; clear hkb hB2)
        | fail)
      go_loop [7] (fun i => ∃ k : Nat, k ≤ 35 ∧ i = .int .i64 k ∧ Hid (∀ j l, j < k → kws[j]? = some l → l ≠ u)) (fun i => 35 - (intOf i).toNat)
      case atStart => exact ⟨0, Nat.zero_le _, rfl, Lib.hid (fun j l h => absurd h (Nat.not_lt_zero _))⟩
      case round =>
        obtain ⟨j, hj, rfl, HN⟩ := hrel
        by_cases hj35 : j < 35
        · obtain ⟨l, hl⟩ : ∃ l, kws[j]? = some l := ⟨_, List.getElem?_eq_getElem (show j < kws.length from hj35)⟩
          have hcell := HKB.out.cell hl
          obtain ⟨T, hT⟩ : ∃ T : ByteArray, T = ⟨l.toArray⟩ := ⟨_, rfl⟩
          rw [← hT] at hcell
          have hj35i : (j : Int) < 35 := by omega
          by_cases he : l = u
          · have HE := Lib.hid (show R = U by rw [HR.out, HK.out, if_pos (by rw [← he]; exact List.mem_of_getElem? hl), HU.out])
            have heq : (T.toList == U.toList) = true := by rw [hT, HU.out, he]; simp
            clear he hl hT
            go_wp2_with fail
            go_ret
            exact ⟨by rw [HE.out]; rfl, HB2.out⟩
          · have heq : (T.toList == U.toList) = false := by
              rw [hT, HU.out, ByteArray.toList_eq, ByteArray.toList_eq]
              simpa using he
            have HN2 := Lib.hid (show ∀ j' l', j' < j + 1 → kws[j']? = some l' → l' ≠ u from fun j' l' h1 h2 => by
              by_cases e : j' = j
              · subst e
                rw [hl] at h2; cases h2
                exact he
              · exact HN.out j' l' (by omega) h2)
            clear he hl hT
            go_wp2_with fail
            go_round
            case rel => exact ⟨j + 1, by omega, by go_num, HN2⟩
            case measure => simp [intOf] <;> omega
        · have HE := Lib.hid (show R = ⟨#[]⟩ by
            rw [HR.out, HK.out, if_neg]
            intro hm
            obtain ⟨i, hi, he⟩ := List.mem_iff_getElem.1 hm
            have hi35 : i < 35 := hi
            exact HN.out i u (by omega) (by rw [List.getElem?_eq_getElem hi, he]) rfl)
          go_wp2_with fail
          go_ret
          exact ⟨by rw [HE.out]; rfl, HB2.out⟩

end Go.Proofs.YthdmfaepjemopaaGreatDoor
