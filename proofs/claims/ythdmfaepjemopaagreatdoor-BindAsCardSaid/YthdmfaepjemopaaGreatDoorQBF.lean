/- The walk of BindAs behind its guards: the other statement, both bound. The walk of BindAs: its guards, the orders' sizes, the other statement's beginning. -/
import Derived.Test.YthdmfaepjemopaaGreatDoorQAY
import Derived.Test.YthdmfaepjemopaaGreatDoorQAZ
import Derived.Test.YthdmfaepjemopaaGreatDoorQBE
namespace Go.Proofs.YthdmfaepjemopaaGreatDoor
open Go.RowKit

noncomputable def bfC (k : Nat) : Code := dropC k (Tryz.f4.body.getD .skip)
set_option maxRecDepth 100000 in
theorem open142 {a : Act} (h : a.tmps.size = 142) : ∃ u : Nat → Value, a.tmps = #[u 0, u 1, u 2, u 3, u 4, u 5, u 6, u 7, u 8, u 9, u 10, u 11, u 12, u 13, u 14, u 15, u 16, u 17, u 18, u 19, u 20, u 21, u 22, u 23, u 24, u 25, u 26, u 27, u 28, u 29, u 30, u 31, u 32, u 33, u 34, u 35, u 36, u 37, u 38, u 39, u 40, u 41, u 42, u 43, u 44, u 45, u 46, u 47, u 48, u 49, u 50, u 51, u 52, u 53, u 54, u 55, u 56, u 57, u 58, u 59, u 60, u 61, u 62, u 63, u 64, u 65, u 66, u 67, u 68, u 69, u 70, u 71, u 72, u 73, u 74, u 75, u 76, u 77, u 78, u 79, u 80, u 81, u 82, u 83, u 84, u 85, u 86, u 87, u 88, u 89, u 90, u 91, u 92, u 93, u 94, u 95, u 96, u 97, u 98, u 99, u 100, u 101, u 102, u 103, u 104, u 105, u 106, u 107, u 108, u 109, u 110, u 111, u 112, u 113, u 114, u 115, u 116, u 117, u 118, u 119, u 120, u 121, u 122, u 123, u 124, u 125, u 126, u 127, u 128, u 129, u 130, u 131, u 132, u 133, u 134, u 135, u 136, u 137, u 138, u 139, u 140, u 141] ∧ ∀ t, t < 142 → a.tmps.getD t undef = u t := by
  refine ⟨fun t => a.tmps.getD t undef, ?_, fun t _ => rfl⟩
  have e : a.tmps = ((List.range 142).map fun t => a.tmps.getD t undef).toArray := by
    apply Array.ext
    · simp [h]
    · intro i h1 h2
      simp [h1]
  exact e
structure S4 (w : World) (yb : Nat) (a : Act) : Prop where
  size : a.tmps.size = 142
  df : a.defers = []
  s2 : a.tmps.getD 2 undef = .pointer (some ⟨w.heap.size, 0, none⟩)
  s3 : a.tmps.getD 3 undef = .pointer (some ⟨w.heap.size + 1, 0, none⟩)
  s7 : a.tmps.getD 7 undef = .pointer (some ⟨yb, 0, none⟩)
  s8 : a.tmps.getD 8 undef = .func (.func 12) #[] #[.pointer (some ⟨w.heap.size + 1, 0, none⟩)]
def SetX (ok : Nat → Prop) (W : World) (n : Nat) (B : Option Addr) (ys : List Ex) : Prop := Setl ok W 10 B (ys.map exL) ∧ ∀ y ∈ ys, ExIn ok W n y
theorem SetX.nil (ok : Nat → Prop) (W : World) (n : Nat) : SetX ok W n none [] := ⟨Setl.nil _ _ _ _, fun y h => by cases h⟩
structure FX (n frb : Nat) (tn : ByteArray) (B1 : Option Addr) (y1 : List Ex) (B2 : Option Addr) (y2 : List Ex) (B3 : Option Addr) (y3 os : List Ex) (ok : Nat → Prop) (W : World) : Prop where
  fr : Setl ok W 2 (some ⟨frb, 0, none⟩) [[.string tn, .string otherN]]
  s1 : SetX ok W n B1 y1
  s2 : SetX ok W n B2 y2
  s3 : SetX ok W n B3 y3
  os : ∀ o ∈ os, ExIn ok W n o
theorem fx_stay (n frb : Nat) (tn : ByteArray) (B1 : Option Addr) (y1 : List Ex) (B2 : Option Addr) (y2 : List Ex) (B3 : Option Addr) (y3 os : List Ex) : Stay (FX n frb tn B1 y1 B2 y2 B3 y3 os) where
  keep h hB := ⟨h.fr.keep hB, ⟨h.s1.1.keep hB, fun y hy => (h.s1.2 y hy).keep hB⟩, ⟨h.s2.1.keep hB, fun y hy => (h.s2.2 y hy).keep hB⟩, ⟨h.s3.1.keep hB, fun y hy => (h.s3.2 y hy).keep hB⟩, fun y hy => (h.os y hy).keep hB⟩
  grown h hg hr := ⟨h.fr.grown hg hr, ⟨h.s1.1.grown hg hr, fun y hy => (h.s1.2 y hy).grown hg hr⟩, ⟨h.s2.1.grown hg hr, fun y hy => (h.s2.2 y hy).grown hg hr⟩, ⟨h.s3.1.grown hg hr, fun y hy => (h.s3.2 y hy).grown hg hr⟩, fun y hy => (h.os y hy).grown hg hr⟩
  mono h hk := ⟨h.fr.mono hk, ⟨h.s1.1.mono hk, fun y hy => (h.s1.2 y hy).mono hk⟩, ⟨h.s2.1.mono hk, fun y hy => (h.s2.2 y hy).mono hk⟩, ⟨h.s3.1.mono hk, fun y hy => (h.s3.2 y hy).mono hk⟩, fun y hy => (h.os y hy).mono hk⟩
def okD (yb : Nat) (v : Value) (b : Nat) : Prop := yb < b ∧ v.ownBlock ≠ some b
structure DS (w : World) (bs : List Obj) (yb : Nat) (yr : Array Value) (F : (Nat → Prop) → World → Prop) (v : Value) (k : Nat) (xs : List Value) (W : World) : Prop where
  bx : BX w bs W
  y : W.heap[yb]? = some (.cells yr 33)
  hy : w.heap.size + bs.length ≤ yb
  own : W.ownsRow (yb + 1) 43 11 v k xs
  hold : F (okD yb v) W
theorem DS.keep {w : World} {bs : List Obj} {yb : Nat} {yr : Array Value} {F : (Nat → Prop) → World → Prop} (hF : Stay F) {v : Value} {k : Nat} {xs : List Value} {W W' : World} (h : DS w bs yb yr F v k xs W) (hB : Below W.heap.size W W') : DS w bs yb yr F v k xs W' :=
  ⟨h.bx.keep hB, (hB.block _ (heap_lt h.y)).trans h.y, h.hy, own_kept h.own hB (Nat.le_refl _), hF.keep h.hold hB⟩
theorem DS.setY {w : World} {bs : List Obj} {yb : Nat} {yr : Array Value} {F : (Nat → Prop) → World → Prop} (hF : Stay F) {v : Value} {k : Nat} {xs : List Value} {W : World} (h : DS w bs yb yr F v k xs W) (i : Nat) (u : Value) : DS w bs yb (yr.setIfInBounds i u) F v k xs (W.setCell ⟨yb, i, none⟩ u) := by
  refine ⟨h.bx.out h.hy, ?_, h.hy, own_far h.own (by omega) u, hF.grown h.hold (set_grown W yb i u) (fun c hc e => by have := hc.1; have := Option.some.inj e; omega)⟩
  rw [setCell_eq_setRow W _ i _ 33 _ _ h.y]
  exact setRow_heap W _ _ _ 33 _ h.y
theorem DS.app {w : World} {bs : List Obj} {yb : Nat} {yr : Array Value} {F : (Nat → Prop) → World → Prop} (hF : Stay F) {v : Value} {k : Nat} {xs : List Value} {W W' : World} (h : DS w bs yb yr F v k xs W) {v' : Value} {k' : Nat} {xs' : List Value} (hown : W'.ownsRow (yb + 1) 43 11 v' k' xs') (hg : W.grownBy W' v.ownBlock) (hv : v'.ownBlock = v.ownBlock ∨ v'.ownBlock = some W.heap.size) : DS w bs yb yr F v' k' xs' W' := by
  have hb := own_base h.own
  have hyl := heap_lt h.y
  have hyb := h.hy
  refine ⟨h.bx.grown2 hg (fun b e => by have := (hb b e).1; omega) (by omega), (hg.block _ hyl (fun e => by have := (hb _ e.symm).1; omega)).trans h.y, h.hy, hown, ?_⟩
  have h1 : F (fun b => okD yb v b ∧ b < W.heap.size) W := hF.mono h.hold fun b h1 h2 => ⟨h1, h2⟩
  have h2 := hF.grown h1 hg (fun b hk e => hk.1.2 e.symm)
  refine hF.mono h2 fun b hk _ => ⟨hk.1.1, fun e => ?_⟩
  rcases hv with hv | hv
  · rw [hv] at e; exact hk.1.2 e
  · rw [hv] at e; have := Option.some.inj e; omega
theorem DS.re {w : World} {bs : List Obj} {yb : Nat} {yr : Array Value} {F F' : (Nat → Prop) → World → Prop} {v : Value} {k : Nat} {xs : List Value} {W : World} (h : DS w bs yb yr F v k xs W) (hF : F (okD yb v) W → F' (okD yb v) W) : DS w bs yb yr F' v k xs W := ⟨h.bx, h.y, h.hy, h.own, hF h.hold⟩
theorem DS.lt {w : World} {bs : List Obj} {yb : Nat} {yr : Array Value} {F : (Nat → Prop) → World → Prop} {v : Value} {k : Nat} {xs : List Value} {W : World} (h : DS w bs yb yr F v k xs W) : yb < W.heap.size := heap_lt h.y
theorem row12 {W : World} {b : Nat} {v0 v1 v2 v3 v4 v5 v6 v7 v8 v9 v10 v11 : Value} {ty : TypeId} {fr : Nat × Nat} (h : W.heap[b]? = some (.cells #[v0, v1, v2, v3, v4, v5, v6, v7, v8, v9, v10, v11] ty fr)) : W.cell? ⟨b, 0, none⟩ = some v0 ∧ W.cell? ⟨b, 1, none⟩ = some v1 ∧ W.cell? ⟨b, 2, none⟩ = some v2 ∧ W.cell? ⟨b, 3, none⟩ = some v3 ∧ W.cell? ⟨b, 4, none⟩ = some v4 ∧ W.cell? ⟨b, 5, none⟩ = some v5 ∧ W.cell? ⟨b, 6, none⟩ = some v6 ∧ W.cell? ⟨b, 7, none⟩ = some v7 ∧ W.cell? ⟨b, 8, none⟩ = some v8 ∧ W.cell? ⟨b, 9, none⟩ = some v9 ∧ W.cell? ⟨b, 10, none⟩ = some v10 ∧ W.cell? ⟨b, 11, none⟩ = some v11 :=
  ⟨cell_of_row _ _ 0 _ _ _ h, cell_of_row _ _ 1 _ _ _ h, cell_of_row _ _ 2 _ _ _ h, cell_of_row _ _ 3 _ _ _ h, cell_of_row _ _ 4 _ _ _ h, cell_of_row _ _ 5 _ _ _ h, cell_of_row _ _ 6 _ _ _ h, cell_of_row _ _ 7 _ _ _ h, cell_of_row _ _ 8 _ _ _ h, cell_of_row _ _ 9 _ _ _ h, cell_of_row _ _ 10 _ _ _ h, cell_of_row _ _ 11 _ _ _ h⟩
theorem qz_at (ok : Nat → Prop) (n : Nat) (W : World) : QyAt ok n W ⟨[], [], 0, [], [], false, [], [], 0⟩ (.agg #[.slice none 0 0, .slice none 0 0, .int .i64 0, .slice none 0 0, .slice none 0 0, .bool false, .slice none 0 0, .slice none 0 0, .int .i64 0]) :=
  ⟨none, 0, none, 0, none, 0, [], none, 0, none, 0, [], none, 0, rfl, Setl.nil _ _ _ _, Setl.nil _ _ _ _, Setl.nil _ _ _ _, ⟨rfl, fun i x q h => by cases h⟩, Setl.nil _ _ _ _, Setl.nil _ _ _ _, ⟨rfl, fun i x q h => by cases h⟩, Setl.nil _ _ _ _⟩
theorem turn_set {n : Nat} {W w5 : World} {_was : ByteArray} {_l : List Ex} {yb : Nat} (hy : yb < W.heap.size) {B : Option Addr} {ys : List Ex} (hC : CellsAt w5 10 B (ys.map exL)) (hA : ∀ a, B = some a → W.heap.size ≤ a.block) (hI : ∀ y ∈ ys, ExIn (fun b => W.heap.size ≤ b) w5 n y) : SetX (okD yb (.slice none 0 0)) w5 n B ys :=
  ⟨⟨hC, fun _ a ha => ⟨by have := hA a ha; omega, fun e => by cases e⟩⟩, fun y hy' => (hI y hy').mono fun b hb _ => ⟨by omega, fun e => by cases e⟩⟩
theorem pair_more {α : Type} {R : α → α → Prop} {l ys : List α} {j : Nat} {a b : α} (h : Pair R (l.take j) ys) (ha : l[j]? = some a) (hab : R a b) : Pair R (l.take (j + 1)) (ys ++ [b]) := by
  have hj := (List.getElem?_eq_some_iff.1 ha).1
  have hl : ys.length = j := by rw [h.1, List.length_take]; omega
  refine ⟨by rw [List.length_append, hl, List.length_take]; simp; omega, fun i x y hx hy => ?_⟩
  rw [List.take_add_one, ha, Option.toList_some] at hx
  by_cases hi : i < j
  · rw [List.getElem?_append_left (by rw [List.length_take]; omega)] at hx
    rw [List.getElem?_append_left (by omega)] at hy
    exact h.2 i x y hx hy
  · rw [List.getElem?_append_right (by rw [List.length_take]; omega)] at hx
    rw [List.getElem?_append_right (by omega)] at hy
    have hi0 : i - ys.length = 0 := by
      have := (List.getElem?_eq_some_iff.1 hy).1
      simpa using this
    rw [hi0] at hy
    rw [show i - (l.take j).length = 0 by rw [← h.1]; exact hi0] at hx
    cases hx
    cases hy
    exact hab
def orderZ : Value := .agg #[.int .i64 0, .string ⟨#[]⟩, .int .i64 0, .int .i64 0, .float .f64 0, .string ⟨#[]⟩, .string ⟨#[]⟩, .string ⟨#[]⟩, .bool false, .slice none 0 0, .bool false]
theorem info43 : (Tryz.prog.info? 43).map (fun i => (i.zero, i.size, i.bytes)) = some (some orderZ, 11, 136) := by kernel_rfl
set_option maxRecDepth 100000 in
set_option maxHeartbeats 16000000 in
theorem as9e (n : Nat) (_ts : List (Tab × List Col)) (w : World) (A : Option Addr) (m c : Nat) (ia : Option Addr) (il ik : Nat) (k : Int) (xtab : ByteArray) (ya : Option Addr) (yn yc : Nat) (za : Option Addr) (zn zc : Nat) (va : Option Addr) (vn vc : Nat) (star : Bool) (xA : Option Addr) (xq xc : Nat) (fb fo fc : Nat) (hA : Option Addr) (hq hc : Nat) (uA : Option Addr) (uq uc : Nat) (pA : Option Addr) (pq pc : Nat) (lim : Int) (yb frb : Nat) (B1 : Option Addr) (k1 : Nat) (B2 : Option Addr) (k2 : Nat) (B3 : Option Addr) (k3 : Nat) (pB : Option Addr) (pk : Nat) (er : Int) (a : Act) (W : World) (hS : S4 w yb a) (hM : BX w [.cells #[.slice A m c, .slice ia il ik] 25, .cells #[.int .i64 k, .string xtab, .slice ya yn yc, .slice za zn zc, .slice va vn vc, .bool star, .slice xA xq xc, .slice (some ⟨fb, fo, none⟩) 1 fc, .slice hA hq hc, .slice uA uq uc, .slice pA pq pc, .int .i64 lim] 33] W) (hY : W.heap[yb]? = some (.cells #[.int .i64 k, .string xtab, .slice ya yn yc, .slice za zn zc, .slice va vn vc, .bool star, .slice B1 xq k1, .slice (some ⟨frb, 0, none⟩) 1 1, .slice B2 hq k2, .slice B3 uq k3, .slice pB pq pk, .int .i64 lim] 33))
    (HSX : ∀ W', Below W.heap.size W W' → Calls Tryz.prog 9 #[.agg #[.slice A m c, .slice ia il ik], .agg #[.int .i64 k, .string xtab, .slice ya yn yc, .slice za zn zc, .slice va vn vc, .bool star, .slice xA xq xc, .slice (some ⟨fb, fo, none⟩) 1 fc, .slice hA hq hc, .slice uA uq uc, .slice pA pq pc, .int .i64 lim]] W' (SelectO n W' (.error er))) (HSY : ∀ W', Below W.heap.size W W' → Calls Tryz.prog 9 #[.agg #[.slice A m c, .slice ia il ik], .agg #[.int .i64 k, .string xtab, .slice ya yn yc, .slice za zn zc, .slice va vn vc, .bool star, .slice B1 xq k1, .slice (some ⟨frb, 0, none⟩) 1 1, .slice B2 hq k2, .slice B3 uq k3, .slice pB pq pk, .int .i64 lim]] W' (SelectO n W' (.error er))) : (bfC 9).wp Tryz.prog (bodyPost Tryz.prog Tryz.f4 (RetV (.bool true) w)) a W := by
  have HSX := Lib.hid (show Calls Tryz.prog 9 #[.agg #[.slice A m c, .slice ia il ik], .agg #[.int .i64 k, .string xtab, .slice ya yn yc, .slice za zn zc, .slice va vn vc, .bool star, .slice xA xq xc, .slice (some ⟨fb, fo, none⟩) 1 fc, .slice hA hq hc, .slice uA uq uc, .slice pA pq pc, .int .i64 lim]] W (fun e w' => Below W.heap.size W w' ∧ e = .returned (.tuple #[.agg #[.slice none 0 0, .slice none 0 0, .int .i64 0, .slice none 0 0, .slice none 0 0, .bool false, .slice none 0 0, .slice none 0 0, .int .i64 0], .int .i64 er])) from HSX W (Below.refl _ _))
  have HSY := Lib.hid (show ∀ W', Below W.heap.size W W' → Calls Tryz.prog 9 #[.agg #[.slice A m c, .slice ia il ik], .agg #[.int .i64 k, .string xtab, .slice ya yn yc, .slice za zn zc, .slice va vn vc, .bool star, .slice B1 xq k1, .slice (some ⟨frb, 0, none⟩) 1 1, .slice B2 hq k2, .slice B3 uq k3, .slice pB pq pk, .int .i64 lim]] W' (fun e w' => Below W'.heap.size W' w' ∧ e = .returned (.tuple #[.agg #[.slice none 0 0, .slice none 0 0, .int .i64 0, .slice none 0 0, .slice none 0 0, .bool false, .slice none 0 0, .slice none 0 0, .int .i64 0], .int .i64 er])) from fun W' hB => HSY W' hB)
  have HSQ := Lib.hid (show ∀ W', Calls Tryz.prog 14 #[.agg #[.slice none 0 0, .slice none 0 0, .int .i64 0, .slice none 0 0, .slice none 0 0, .bool false, .slice none 0 0, .slice none 0 0, .int .i64 0], .agg #[.slice none 0 0, .slice none 0 0, .int .i64 0, .slice none 0 0, .slice none 0 0, .bool false, .slice none 0 0, .slice none 0 0, .int .i64 0]] W' (RetV (.bool true) W') from fun W' => sameq_any n _ (fun _ => True) (fun _ => True) _ _ W' (qz_at _ n W') (qz_at _ n W'))
  have hee : (er == er) = true := beq_self_eq_true _
  have HM := Lib.hid hM
  have HY := Lib.hid hY
  clear hM hY
  obtain ⟨s0, s1, s2, s3, s4, s5, s6, s7, s8, s9, s10, s11, s12, s13⟩ := HM.out.two12
  obtain ⟨u, hu, hug⟩ := open142 hS.size
  have p2 := hS.s2; have p3 := hS.s3; have p7 := hS.s7; have p8 := hS.s8
  have hdf := hS.df
  rw [hug _ (by omega)] at p2 p3 p7 p8
  obtain ⟨tm, df⟩ := a
  dsimp only at hu hdf
  subst hu hdf
  clear hS hug
  rw [p2, p3, p7, p8]
  clear p2 p3 p7 p8
  conv => arg 2; whnf
  go_wp2_with (first
    | (go_at_call 9; (with_reducible refine HSX.out.mono ?_); rintro e w5 ⟨hB5, rfl⟩
       have HB5 := Lib.hid (hB5.alloc hB5.size (.cells #[.slice none 0 0, .slice none 0 0, .int .i64 0, .slice none 0 0, .slice none 0 0, .bool false, .slice none 0 0, .slice none 0 0, .int .i64 0] 48))
       have HM5 := Lib.hid (HM.out.keep HB5.out)
       have HX5 := Lib.hid (heap_alloc_new w5 (.cells #[.slice none 0 0, .slice none 0 0, .int .i64 0, .slice none 0 0, .slice none 0 0, .bool false, .slice none 0 0, .slice none 0 0, .int .i64 0] 48))
       have HY5 := Lib.hid ((HB5.out.block _ (heap_lt HY.out)).trans HY.out)
       obtain ⟨a0, a1, a2, a3, a4, a5, a6, a7, a8, a9, a10, a11, a12, a13⟩ := HM5.out.two12
       obtain ⟨y0, y1, y2, y3, y4, y5, y6, y7, y8, y9, y10, y11⟩ := row12 HY5.out
       clear hB5 s0 s1 s2 s3 s4 s5 s6 s7 s8 s9 s10 s11 s12 s13)
    | (go_at_call 9; (with_reducible refine (HSY.out _ HB5.out).mono ?_); rintro e w6 ⟨hB6, rfl⟩
       have HB6 := fun O => Lib.hid (hB6.alloc hB6.size O)
       have HM6 := fun O => Lib.hid (HM5.out.keep (HB6 O).out)
       have HX6 := fun O => Lib.hid (((HB6 O).out.block _ (heap_lt HX5.out)).trans HX5.out)
       obtain ⟨q0, q1, q2, q3, q4, q5, q6, q7, q8⟩ := row9 (HX6 (.cells #[.slice none 0 0, .slice none 0 0, .int .i64 0, .slice none 0 0, .slice none 0 0, .bool false, .slice none 0 0, .slice none 0 0, .int .i64 0] 48)).out
       have hzz := heap_lt HX5.out
       have hz6 := hB6.size
       clear hB6)
    | (go_at_call 14; (with_reducible refine (HSQ.out _).mono ?_); rintro e w7 ⟨rfl, hB7⟩
       have HM7 := Lib.hid ((HM6 _).out.keep hB7)
       clear hB7)
    | fail)
  exact bodyPost_ret (results_tmp rfl _ _ _) rfl ⟨rfl, HM7.out.below⟩
set_option maxRecDepth 100000 in
set_option maxHeartbeats 16000000 in
theorem as9o (n : Nat) (_ts : List (Tab × List Col)) (w : World) (A : Option Addr) (m c : Nat) (ia : Option Addr) (il ik : Nat) (k : Int) (xtab : ByteArray) (ya : Option Addr) (yn yc : Nat) (za : Option Addr) (zn zc : Nat) (va : Option Addr) (vn vc : Nat) (star : Bool) (xA : Option Addr) (xq xc : Nat) (fb fo fc : Nat) (hA : Option Addr) (hq hc : Nat) (uA : Option Addr) (uq uc : Nat) (pA : Option Addr) (pq pc : Nat) (lim : Int) (yb frb : Nat) (B1 : Option Addr) (k1 : Nat) (B2 : Option Addr) (k2 : Nat) (B3 : Option Addr) (k3 : Nat) (pB : Option Addr) (pk : Nat) (q : Qy) (a : Act) (W : World) (hS : S4 w yb a) (hM : BX w [.cells #[.slice A m c, .slice ia il ik] 25, .cells #[.int .i64 k, .string xtab, .slice ya yn yc, .slice za zn zc, .slice va vn vc, .bool star, .slice xA xq xc, .slice (some ⟨fb, fo, none⟩) 1 fc, .slice hA hq hc, .slice uA uq uc, .slice pA pq pc, .int .i64 lim] 33] W) (hY : W.heap[yb]? = some (.cells #[.int .i64 k, .string xtab, .slice ya yn yc, .slice za zn zc, .slice va vn vc, .bool star, .slice B1 xq k1, .slice (some ⟨frb, 0, none⟩) 1 1, .slice B2 hq k2, .slice B3 uq k3, .slice pB pq pk, .int .i64 lim] 33))
    (HSX : ∀ W', Below W.heap.size W W' → Calls Tryz.prog 9 #[.agg #[.slice A m c, .slice ia il ik], .agg #[.int .i64 k, .string xtab, .slice ya yn yc, .slice za zn zc, .slice va vn vc, .bool star, .slice xA xq xc, .slice (some ⟨fb, fo, none⟩) 1 fc, .slice hA hq hc, .slice uA uq uc, .slice pA pq pc, .int .i64 lim]] W' (SelectO n W' (.ok q))) (HSY : ∀ W', Below W.heap.size W W' → Calls Tryz.prog 9 #[.agg #[.slice A m c, .slice ia il ik], .agg #[.int .i64 k, .string xtab, .slice ya yn yc, .slice za zn zc, .slice va vn vc, .bool star, .slice B1 xq k1, .slice (some ⟨frb, 0, none⟩) 1 1, .slice B2 hq k2, .slice B3 uq k3, .slice pB pq pk, .int .i64 lim]] W' (SelectO n W' (.ok q))) : (bfC 9).wp Tryz.prog (bodyPost Tryz.prog Tryz.f4 (RetV (.bool true) w)) a W := by
  have HSX := Lib.hid (HSX W (Below.refl _ _))
  have HSY := Lib.hid HSY
  have HM := Lib.hid hM
  have HY := Lib.hid hY
  clear hM hY
  obtain ⟨s0, s1, s2, s3, s4, s5, s6, s7, s8, s9, s10, s11, s12, s13⟩ := HM.out.two12
  obtain ⟨u, hu, hug⟩ := open142 hS.size
  have p2 := hS.s2; have p3 := hS.s3; have p7 := hS.s7; have p8 := hS.s8
  have hdf := hS.df
  rw [hug _ (by omega)] at p2 p3 p7 p8
  obtain ⟨tm, df⟩ := a
  dsimp only at hu hdf
  subst hu hdf
  clear hS hug
  rw [p2, p3, p7, p8]
  clear p2 p3 p7 p8
  conv => arg 2; whnf
  refine wp_seq_k fun K0 hK0 => ?_
  have HK0 := Lib.hid hK0
  clear hK0
  go_wp2_with (first
    | (go_at_call 9; (with_reducible refine HSX.out.mono ?_); rintro e w5 ⟨hB5, v, rfl, hQ⟩
       have HQ := Lib.hid hQ
       obtain ⟨tA, tc, bA, bc, wA, wc, wvs, gA, gc, iA, ic, ivs, oA, oc, rfl, -⟩ := hQ
       have HBZ := Lib.hid hB5
       clear hB5)
    | fail)
  refine HK0.out _ _ ?_
  have HB5 := Lib.hid (HBZ.out.alloc HBZ.out.size (.cells #[.slice tA q.tabs.length tc, .slice bA q.begs.length bc, .int .i64 q.width, .slice wA wvs.length wc, .slice gA q.grp.length gc, .bool q.gr, .slice iA ivs.length ic, .slice oA q.ord.length oc, .int .i64 q.lim] 48))
  have HM5 := Lib.hid (HM.out.keep HB5.out)
  have HX5 := Lib.hid (heap_alloc_new w5 (.cells #[.slice tA q.tabs.length tc, .slice bA q.begs.length bc, .int .i64 q.width, .slice wA wvs.length wc, .slice gA q.grp.length gc, .bool q.gr, .slice iA ivs.length ic, .slice oA q.ord.length oc, .int .i64 q.lim] 48))
  have HY5 := Lib.hid ((HB5.out.block _ (heap_lt HY.out)).trans HY.out)
  have HQ5 := Lib.hid (HQ.out.keep (below1 w5 (.cells #[.slice tA q.tabs.length tc, .slice bA q.begs.length bc, .int .i64 q.width, .slice wA wvs.length wc, .slice gA q.grp.length gc, .bool q.gr, .slice iA ivs.length ic, .slice oA q.ord.length oc, .int .i64 q.lim] 48)))
  obtain ⟨qb, hqb⟩ : ∃ b, b = w5.heap.size := ⟨_, rfl⟩
  rw [← hqb] at HX5 ⊢
  clear hqb HQ HBZ s0 s1 s2 s3 s4 s5 s6 s7 s8 s9 s10 s11 s12 s13
  generalize w5.alloc (.cells #[.slice tA q.tabs.length tc, .slice bA q.begs.length bc, .int .i64 q.width, .slice wA wvs.length wc, .slice gA q.grp.length gc, .bool q.gr, .slice iA ivs.length ic, .slice oA q.ord.length oc, .int .i64 q.lim] 48) = w6 at HB5 HM5 HX5 HY5 HQ5 ⊢
  obtain ⟨a0, a1, a2, a3, a4, a5, a6, a7, a8, a9, a10, a11, a12, a13⟩ := HM5.out.two12
  obtain ⟨y0, y1, y2, y3, y4, y5, y6, y7, y8, y9, y10, y11⟩ := row12 HY5.out
  have hzz := heap_lt HX5.out
  refine wp_seq_k fun K1 hK1 => ?_
  have HK1 := Lib.hid hK1
  clear hK1
  go_wp2_with (first
    | (go_at_call 9; (with_reducible refine (HSY.out _ HB5.out).mono ?_); rintro e w7 ⟨hB7, v2, rfl, hQ2⟩
       have HQ7 := Lib.hid hQ2
       have HB7 := Lib.hid hB7
       obtain ⟨tA2, tc2, bA2, bc2, wA2, wc2, wvs2, gA2, gc2, iA2, ic2, ivs2, oA2, oc2, rfl, -⟩ := hQ2
       clear hB7)
    | fail)
  refine HK1.out _ _ ?_
  have HBZ := Lib.hid (HB7.out.alloc HB7.out.size (.cells #[.slice tA2 q.tabs.length tc2, .slice bA2 q.begs.length bc2, .int .i64 q.width, .slice wA2 wvs2.length wc2, .slice gA2 q.grp.length gc2, .bool q.gr, .slice iA2 ivs2.length ic2, .slice oA2 q.ord.length oc2, .int .i64 q.lim] 48))
  have HX8 := Lib.hid ((HBZ.out.block _ hzz).trans HX5.out)
  have HN8 := Lib.hid (heap_alloc_new w7 (.cells #[.slice tA2 q.tabs.length tc2, .slice bA2 q.begs.length bc2, .int .i64 q.width, .slice wA2 wvs2.length wc2, .slice gA2 q.grp.length gc2, .bool q.gr, .slice iA2 ivs2.length ic2, .slice oA2 q.ord.length oc2, .int .i64 q.lim] 48))
  have HM8 := Lib.hid (HM5.out.keep HBZ.out)
  have HQ8 := Lib.hid (HQ5.out.keep HBZ.out)
  have HR8 := Lib.hid (HQ7.out.keep (below1 w7 (.cells #[.slice tA2 q.tabs.length tc2, .slice bA2 q.begs.length bc2, .int .i64 q.width, .slice wA2 wvs2.length wc2, .slice gA2 q.grp.length gc2, .bool q.gr, .slice iA2 ivs2.length ic2, .slice oA2 q.ord.length oc2, .int .i64 q.lim] 48)))
  obtain ⟨rb, hrb⟩ : ∃ b, b = w7.heap.size := ⟨_, rfl⟩
  rw [← hrb] at HN8 ⊢
  clear hrb HQ7 HB7 HBZ a0 a1 a2 a3 a4 a5 a6 a7 a8 a9 a10 a11 a12 a13 y0 y1 y2 y3 y4 y5 y6 y7 y8 y9 y10 y11
  generalize w7.alloc (.cells #[.slice tA2 q.tabs.length tc2, .slice bA2 q.begs.length bc2, .int .i64 q.width, .slice wA2 wvs2.length wc2, .slice gA2 q.grp.length gc2, .bool q.gr, .slice iA2 ivs2.length ic2, .slice oA2 q.ord.length oc2, .int .i64 q.lim] 48) = w8 at HX8 HN8 HM8 HQ8 HR8 ⊢
  obtain ⟨q0, q1, q2, q3, q4, q5, q6, q7, q8⟩ := row9 HX8.out
  obtain ⟨r0, r1, r2, r3, r4, r5, r6, r7, r8⟩ := row9 HN8.out
  have HSQ := Lib.hid (sameq_any n q _ _ _ _ w8 HQ8.out HR8.out)
  go_wp2_with (first
    | (go_at_call 14; (with_reducible refine HSQ.out.mono ?_); rintro e w9 ⟨rfl, hB9⟩
       have HM9 := Lib.hid (HM8.out.keep hB9)
       clear hB9)
    | fail)
  exact bodyPost_ret (results_tmp rfl _ _ _) rfl ⟨rfl, HM9.out.below⟩
end Go.Proofs.YthdmfaepjemopaaGreatDoor
namespace Go.Proofs.YthdmfaepjemopaaGreatDoor
open Go.RowKit

structure S2b (w : World) (a : Act) : Prop where
  size : a.tmps.size = 142
  df : a.defers = []
  s2 : a.tmps.getD 2 undef = .pointer (some ⟨w.heap.size, 0, none⟩)
  s3 : a.tmps.getD 3 undef = .pointer (some ⟨w.heap.size + 1, 0, none⟩)
set_option maxRecDepth 100000 in
set_option maxHeartbeats 16000000 in
theorem as_x0 (_n : Nat) (_ts : List (Tab × List Col)) (w : World) (A : Option Addr) (m c : Nat) (ia : Option Addr) (il ik : Nat) (k : Int) (xtab : ByteArray) (ya : Option Addr) (yn yc : Nat) (za : Option Addr) (zn zc : Nat) (va : Option Addr) (vn vc : Nat) (star : Bool) (xA : Option Addr) (xq xc : Nat) (fA : Option Addr) (fq fc : Nat) (hA : Option Addr) (hq hc : Nat) (uA : Option Addr) (uq uc : Nat) (pA : Option Addr) (pq pc : Nat) (lim : Int) (_b1 b2 b3 b4 : Bool) (HSM : ∀ W, Below w.heap.size w W → Calls Tryz.prog 7 #[.agg #[.slice A m c, .slice ia il ik]] W (RetV (.bool false) W)) (HFX : ∀ W, Below w.heap.size w W → Calls Tryz.prog 8 #[.slice xA xq xc] W (RetV (.bool b2) W)) (HFH : ∀ W, Below w.heap.size w W → Calls Tryz.prog 8 #[.slice hA hq hc] W (RetV (.bool b3) W)) (HFU : ∀ W, Below w.heap.size w W → Calls Tryz.prog 8 #[.slice uA uq uc] W (RetV (.bool b4) W))  : Calls Tryz.prog 4 #[.agg #[.slice A m c, .slice ia il ik], .agg #[.int .i64 k, .string xtab, .slice ya yn yc, .slice za zn zc, .slice va vn vc, .bool star, .slice xA xq xc, .slice fA fq fc, .slice hA hq hc, .slice uA uq uc, .slice pA pq pc, .int .i64 lim]] w (RetV (.bool true) w) := by
  have HLV := Lib.hid lives_any
  have HSM := Lib.hid HSM
  have HFX := Lib.hid HFX
  have HFH := Lib.hid HFH
  have HFU := Lib.hid HFU
  go_enter Tryz.func4, Tryz.ntmps4
  go_wp2_with (first
    | (go_at_call 6; (with_reducible refine (HLV.out _).mono ?_); rintro e wa ⟨rfl, hB⟩
       have HBa := Lib.hid ((BX.two w _ _).keep hB)
       obtain ⟨sa0, sa1, sa2, sa3, sa4, sa5, sa6, sa7, sa8, sa9, sa10, sa11, sa12, sa13⟩ := HBa.out.two12
       clear hB)
    | (go_at_call 7; (with_reducible refine (HSM.out _ HBa.out.below).mono ?_); rintro e wb ⟨rfl, hB⟩
       have HBb := Lib.hid (HBa.out.keep hB)
       obtain ⟨sb0, sb1, sb2, sb3, sb4, sb5, sb6, sb7, sb8, sb9, sb10, sb11, sb12, sb13⟩ := HBb.out.two12
       clear hB)
    | (go_at_call 6; (with_reducible refine (HLV.out _).mono ?_); rintro e wz ⟨rfl, hB⟩
       have HBz := Lib.hid (HBb.out.keep hB)
       clear hB)
    | fail)
  go_ret
  exact ⟨rfl, HBz.out.below⟩
set_option maxRecDepth 100000 in
set_option maxHeartbeats 16000000 in
theorem as_x1 (_n : Nat) (_ts : List (Tab × List Col)) (w : World) (A : Option Addr) (m c : Nat) (ia : Option Addr) (il ik : Nat) (k : Int) (xtab : ByteArray) (ya : Option Addr) (yn yc : Nat) (za : Option Addr) (zn zc : Nat) (va : Option Addr) (vn vc : Nat) (star : Bool) (xA : Option Addr) (xq xc : Nat) (fA : Option Addr) (fq fc : Nat) (hA : Option Addr) (hq hc : Nat) (uA : Option Addr) (uq uc : Nat) (pA : Option Addr) (pq pc : Nat) (lim : Int) (_b1 _b2 b3 b4 : Bool) (HSM : ∀ W, Below w.heap.size w W → Calls Tryz.prog 7 #[.agg #[.slice A m c, .slice ia il ik]] W (RetV (.bool true) W)) (HFX : ∀ W, Below w.heap.size w W → Calls Tryz.prog 8 #[.slice xA xq xc] W (RetV (.bool false) W)) (HFH : ∀ W, Below w.heap.size w W → Calls Tryz.prog 8 #[.slice hA hq hc] W (RetV (.bool b3) W)) (HFU : ∀ W, Below w.heap.size w W → Calls Tryz.prog 8 #[.slice uA uq uc] W (RetV (.bool b4) W))  : Calls Tryz.prog 4 #[.agg #[.slice A m c, .slice ia il ik], .agg #[.int .i64 k, .string xtab, .slice ya yn yc, .slice za zn zc, .slice va vn vc, .bool star, .slice xA xq xc, .slice fA fq fc, .slice hA hq hc, .slice uA uq uc, .slice pA pq pc, .int .i64 lim]] w (RetV (.bool true) w) := by
  have HLV := Lib.hid lives_any
  have HSM := Lib.hid HSM
  have HFX := Lib.hid HFX
  have HFH := Lib.hid HFH
  have HFU := Lib.hid HFU
  go_enter Tryz.func4, Tryz.ntmps4
  go_wp2_with (first
    | (go_at_call 6; (with_reducible refine (HLV.out _).mono ?_); rintro e wa ⟨rfl, hB⟩
       have HBa := Lib.hid ((BX.two w _ _).keep hB)
       obtain ⟨sa0, sa1, sa2, sa3, sa4, sa5, sa6, sa7, sa8, sa9, sa10, sa11, sa12, sa13⟩ := HBa.out.two12
       clear hB)
    | (go_at_call 7; (with_reducible refine (HSM.out _ HBa.out.below).mono ?_); rintro e wb ⟨rfl, hB⟩
       have HBb := Lib.hid (HBa.out.keep hB)
       obtain ⟨sb0, sb1, sb2, sb3, sb4, sb5, sb6, sb7, sb8, sb9, sb10, sb11, sb12, sb13⟩ := HBb.out.two12
       clear hB)
    | (go_at_call 8; (with_reducible refine (HFX.out _ HBb.out.below).mono ?_); rintro e wc ⟨rfl, hB⟩
       have HBc := Lib.hid (HBb.out.keep hB)
       obtain ⟨sc0, sc1, sc2, sc3, sc4, sc5, sc6, sc7, sc8, sc9, sc10, sc11, sc12, sc13⟩ := HBc.out.two12
       clear hB)
    | (go_at_call 6; (with_reducible refine (HLV.out _).mono ?_); rintro e wz ⟨rfl, hB⟩
       have HBz := Lib.hid (HBc.out.keep hB)
       clear hB)
    | fail)
  go_ret
  exact ⟨rfl, HBz.out.below⟩
set_option maxRecDepth 100000 in
set_option maxHeartbeats 16000000 in
theorem as_x2 (_n : Nat) (_ts : List (Tab × List Col)) (w : World) (A : Option Addr) (m c : Nat) (ia : Option Addr) (il ik : Nat) (k : Int) (xtab : ByteArray) (ya : Option Addr) (yn yc : Nat) (za : Option Addr) (zn zc : Nat) (va : Option Addr) (vn vc : Nat) (star : Bool) (xA : Option Addr) (xq xc : Nat) (fA : Option Addr) (fq fc : Nat) (hA : Option Addr) (hq hc : Nat) (uA : Option Addr) (uq uc : Nat) (pA : Option Addr) (pq pc : Nat) (lim : Int) (_b1 _b2 _b3 b4 : Bool) (HSM : ∀ W, Below w.heap.size w W → Calls Tryz.prog 7 #[.agg #[.slice A m c, .slice ia il ik]] W (RetV (.bool true) W)) (HFX : ∀ W, Below w.heap.size w W → Calls Tryz.prog 8 #[.slice xA xq xc] W (RetV (.bool true) W)) (HFH : ∀ W, Below w.heap.size w W → Calls Tryz.prog 8 #[.slice hA hq hc] W (RetV (.bool false) W)) (HFU : ∀ W, Below w.heap.size w W → Calls Tryz.prog 8 #[.slice uA uq uc] W (RetV (.bool b4) W))  : Calls Tryz.prog 4 #[.agg #[.slice A m c, .slice ia il ik], .agg #[.int .i64 k, .string xtab, .slice ya yn yc, .slice za zn zc, .slice va vn vc, .bool star, .slice xA xq xc, .slice fA fq fc, .slice hA hq hc, .slice uA uq uc, .slice pA pq pc, .int .i64 lim]] w (RetV (.bool true) w) := by
  have HLV := Lib.hid lives_any
  have HSM := Lib.hid HSM
  have HFX := Lib.hid HFX
  have HFH := Lib.hid HFH
  have HFU := Lib.hid HFU
  go_enter Tryz.func4, Tryz.ntmps4
  go_wp2_with (first
    | (go_at_call 6; (with_reducible refine (HLV.out _).mono ?_); rintro e wa ⟨rfl, hB⟩
       have HBa := Lib.hid ((BX.two w _ _).keep hB)
       obtain ⟨sa0, sa1, sa2, sa3, sa4, sa5, sa6, sa7, sa8, sa9, sa10, sa11, sa12, sa13⟩ := HBa.out.two12
       clear hB)
    | (go_at_call 7; (with_reducible refine (HSM.out _ HBa.out.below).mono ?_); rintro e wb ⟨rfl, hB⟩
       have HBb := Lib.hid (HBa.out.keep hB)
       obtain ⟨sb0, sb1, sb2, sb3, sb4, sb5, sb6, sb7, sb8, sb9, sb10, sb11, sb12, sb13⟩ := HBb.out.two12
       clear hB)
    | (go_at_call 8; (with_reducible refine (HFX.out _ HBb.out.below).mono ?_); rintro e wc ⟨rfl, hB⟩
       have HBc := Lib.hid (HBb.out.keep hB)
       obtain ⟨sc0, sc1, sc2, sc3, sc4, sc5, sc6, sc7, sc8, sc9, sc10, sc11, sc12, sc13⟩ := HBc.out.two12
       clear hB)
    | (go_at_call 8; (with_reducible refine (HFH.out _ HBc.out.below).mono ?_); rintro e wd ⟨rfl, hB⟩
       have HBd := Lib.hid (HBc.out.keep hB)
       obtain ⟨sd0, sd1, sd2, sd3, sd4, sd5, sd6, sd7, sd8, sd9, sd10, sd11, sd12, sd13⟩ := HBd.out.two12
       clear hB)
    | (go_at_call 6; (with_reducible refine (HLV.out _).mono ?_); rintro e wz ⟨rfl, hB⟩
       have HBz := Lib.hid (HBd.out.keep hB)
       clear hB)
    | fail)
  go_ret
  exact ⟨rfl, HBz.out.below⟩
set_option maxRecDepth 100000 in
set_option maxHeartbeats 16000000 in
theorem as_x3 (_n : Nat) (_ts : List (Tab × List Col)) (w : World) (A : Option Addr) (m c : Nat) (ia : Option Addr) (il ik : Nat) (k : Int) (xtab : ByteArray) (ya : Option Addr) (yn yc : Nat) (za : Option Addr) (zn zc : Nat) (va : Option Addr) (vn vc : Nat) (star : Bool) (xA : Option Addr) (xq xc : Nat) (fA : Option Addr) (fq fc : Nat) (hA : Option Addr) (hq hc : Nat) (uA : Option Addr) (uq uc : Nat) (pA : Option Addr) (pq pc : Nat) (lim : Int) (_b1 _b2 _b3 _b4 : Bool) (HSM : ∀ W, Below w.heap.size w W → Calls Tryz.prog 7 #[.agg #[.slice A m c, .slice ia il ik]] W (RetV (.bool true) W)) (HFX : ∀ W, Below w.heap.size w W → Calls Tryz.prog 8 #[.slice xA xq xc] W (RetV (.bool true) W)) (HFH : ∀ W, Below w.heap.size w W → Calls Tryz.prog 8 #[.slice hA hq hc] W (RetV (.bool true) W)) (HFU : ∀ W, Below w.heap.size w W → Calls Tryz.prog 8 #[.slice uA uq uc] W (RetV (.bool false) W))  : Calls Tryz.prog 4 #[.agg #[.slice A m c, .slice ia il ik], .agg #[.int .i64 k, .string xtab, .slice ya yn yc, .slice za zn zc, .slice va vn vc, .bool star, .slice xA xq xc, .slice fA fq fc, .slice hA hq hc, .slice uA uq uc, .slice pA pq pc, .int .i64 lim]] w (RetV (.bool true) w) := by
  have HLV := Lib.hid lives_any
  have HSM := Lib.hid HSM
  have HFX := Lib.hid HFX
  have HFH := Lib.hid HFH
  have HFU := Lib.hid HFU
  go_enter Tryz.func4, Tryz.ntmps4
  go_wp2_with (first
    | (go_at_call 6; (with_reducible refine (HLV.out _).mono ?_); rintro e wa ⟨rfl, hB⟩
       have HBa := Lib.hid ((BX.two w _ _).keep hB)
       obtain ⟨sa0, sa1, sa2, sa3, sa4, sa5, sa6, sa7, sa8, sa9, sa10, sa11, sa12, sa13⟩ := HBa.out.two12
       clear hB)
    | (go_at_call 7; (with_reducible refine (HSM.out _ HBa.out.below).mono ?_); rintro e wb ⟨rfl, hB⟩
       have HBb := Lib.hid (HBa.out.keep hB)
       obtain ⟨sb0, sb1, sb2, sb3, sb4, sb5, sb6, sb7, sb8, sb9, sb10, sb11, sb12, sb13⟩ := HBb.out.two12
       clear hB)
    | (go_at_call 8; (with_reducible refine (HFX.out _ HBb.out.below).mono ?_); rintro e wc ⟨rfl, hB⟩
       have HBc := Lib.hid (HBb.out.keep hB)
       obtain ⟨sc0, sc1, sc2, sc3, sc4, sc5, sc6, sc7, sc8, sc9, sc10, sc11, sc12, sc13⟩ := HBc.out.two12
       clear hB)
    | (go_at_call 8; (with_reducible refine (HFH.out _ HBc.out.below).mono ?_); rintro e wd ⟨rfl, hB⟩
       have HBd := Lib.hid (HBc.out.keep hB)
       obtain ⟨sd0, sd1, sd2, sd3, sd4, sd5, sd6, sd7, sd8, sd9, sd10, sd11, sd12, sd13⟩ := HBd.out.two12
       clear hB)
    | (go_at_call 8; (with_reducible refine (HFU.out _ HBd.out.below).mono ?_); rintro e we ⟨rfl, hB⟩
       have HBe := Lib.hid (HBd.out.keep hB)
       obtain ⟨se0, se1, se2, se3, se4, se5, se6, se7, se8, se9, se10, se11, se12, se13⟩ := HBe.out.two12
       clear hB)
    | (go_at_call 6; (with_reducible refine (HLV.out _).mono ?_); rintro e wz ⟨rfl, hB⟩
       have HBz := Lib.hid (HBe.out.keep hB)
       clear hB)
    | fail)
  go_ret
  exact ⟨rfl, HBz.out.below⟩
set_option maxRecDepth 100000 in
set_option maxHeartbeats 16000000 in
theorem as_x4 (_n : Nat) (_ts : List (Tab × List Col)) (w : World) (A : Option Addr) (m c : Nat) (ia : Option Addr) (il ik : Nat) (k : Int) (xtab : ByteArray) (ya : Option Addr) (yn yc : Nat) (za : Option Addr) (zn zc : Nat) (va : Option Addr) (vn vc : Nat) (star : Bool) (xA : Option Addr) (xq xc : Nat) (fA : Option Addr) (fq fc : Nat) (hA : Option Addr) (hq hc : Nat) (uA : Option Addr) (uq uc : Nat) (pA : Option Addr) (pq pc : Nat) (lim : Int) (_b1 _b2 _b3 _b4 : Bool) (HSM : ∀ W, Below w.heap.size w W → Calls Tryz.prog 7 #[.agg #[.slice A m c, .slice ia il ik]] W (RetV (.bool true) W)) (HFX : ∀ W, Below w.heap.size w W → Calls Tryz.prog 8 #[.slice xA xq xc] W (RetV (.bool true) W)) (HFH : ∀ W, Below w.heap.size w W → Calls Tryz.prog 8 #[.slice hA hq hc] W (RetV (.bool true) W)) (HFU : ∀ W, Below w.heap.size w W → Calls Tryz.prog 8 #[.slice uA uq uc] W (RetV (.bool true) W)) (c5 : fq ≠ 1) : Calls Tryz.prog 4 #[.agg #[.slice A m c, .slice ia il ik], .agg #[.int .i64 k, .string xtab, .slice ya yn yc, .slice za zn zc, .slice va vn vc, .bool star, .slice xA xq xc, .slice fA fq fc, .slice hA hq hc, .slice uA uq uc, .slice pA pq pc, .int .i64 lim]] w (RetV (.bool true) w) := by
  have HLV := Lib.hid lives_any
  have HSM := Lib.hid HSM
  have HFX := Lib.hid HFX
  have HFH := Lib.hid HFH
  have HFU := Lib.hid HFU
  have c5a : ((fq : Int) != 1) = true := by rw [bne_iff_ne]; omega
  have c5b : ((fq : Int) = 1) = False := eq_false (by omega)
  have c5c : ((fq : Int) == 1) = false := by rw [beq_eq_false_iff_ne]; omega
  have c5d : (fq = 1) = False := eq_false c5
  have c5e : (fq == 1) = false := by rw [beq_eq_false_iff_ne]; exact c5
  go_enter Tryz.func4, Tryz.ntmps4
  go_wp2_with (first
    | (go_at_call 6; (with_reducible refine (HLV.out _).mono ?_); rintro e wa ⟨rfl, hB⟩
       have HBa := Lib.hid ((BX.two w _ _).keep hB)
       obtain ⟨sa0, sa1, sa2, sa3, sa4, sa5, sa6, sa7, sa8, sa9, sa10, sa11, sa12, sa13⟩ := HBa.out.two12
       clear hB)
    | (go_at_call 7; (with_reducible refine (HSM.out _ HBa.out.below).mono ?_); rintro e wb ⟨rfl, hB⟩
       have HBb := Lib.hid (HBa.out.keep hB)
       obtain ⟨sb0, sb1, sb2, sb3, sb4, sb5, sb6, sb7, sb8, sb9, sb10, sb11, sb12, sb13⟩ := HBb.out.two12
       clear hB)
    | (go_at_call 8; (with_reducible refine (HFX.out _ HBb.out.below).mono ?_); rintro e wc ⟨rfl, hB⟩
       have HBc := Lib.hid (HBb.out.keep hB)
       obtain ⟨sc0, sc1, sc2, sc3, sc4, sc5, sc6, sc7, sc8, sc9, sc10, sc11, sc12, sc13⟩ := HBc.out.two12
       clear hB)
    | (go_at_call 8; (with_reducible refine (HFH.out _ HBc.out.below).mono ?_); rintro e wd ⟨rfl, hB⟩
       have HBd := Lib.hid (HBc.out.keep hB)
       obtain ⟨sd0, sd1, sd2, sd3, sd4, sd5, sd6, sd7, sd8, sd9, sd10, sd11, sd12, sd13⟩ := HBd.out.two12
       clear hB)
    | (go_at_call 8; (with_reducible refine (HFU.out _ HBd.out.below).mono ?_); rintro e we ⟨rfl, hB⟩
       have HBe := Lib.hid (HBd.out.keep hB)
       obtain ⟨se0, se1, se2, se3, se4, se5, se6, se7, se8, se9, se10, se11, se12, se13⟩ := HBe.out.two12
       clear hB)
    | (go_at_call 6; (with_reducible refine (HLV.out _).mono ?_); rintro e wz ⟨rfl, hB⟩
       have HBz := Lib.hid (HBe.out.keep hB)
       clear hB)
    | fail)
  go_ret
  exact ⟨rfl, HBz.out.below⟩
set_option maxRecDepth 100000 in
set_option maxHeartbeats 16000000 in
theorem as_x5 (_n : Nat) (_ts : List (Tab × List Col)) (w : World) (A : Option Addr) (m c : Nat) (ia : Option Addr) (il ik : Nat) (k : Int) (xtab : ByteArray) (ya : Option Addr) (yn yc : Nat) (za : Option Addr) (zn zc : Nat) (va : Option Addr) (vn vc : Nat) (star : Bool) (xA : Option Addr) (xq xc : Nat) (fA : Option Addr) (fc : Nat) (hA : Option Addr) (hq hc : Nat) (uA : Option Addr) (uq uc : Nat) (pA : Option Addr) (pq pc : Nat) (lim : Int) (_b1 _b2 _b3 _b4 : Bool) (HSM : ∀ W, Below w.heap.size w W → Calls Tryz.prog 7 #[.agg #[.slice A m c, .slice ia il ik]] W (RetV (.bool true) W)) (HFX : ∀ W, Below w.heap.size w W → Calls Tryz.prog 8 #[.slice xA xq xc] W (RetV (.bool true) W)) (HFH : ∀ W, Below w.heap.size w W → Calls Tryz.prog 8 #[.slice hA hq hc] W (RetV (.bool true) W)) (HFU : ∀ W, Below w.heap.size w W → Calls Tryz.prog 8 #[.slice uA uq uc] W (RetV (.bool true) W)) (c6 : ((12 : Int) < (pq : Int)) = True) : Calls Tryz.prog 4 #[.agg #[.slice A m c, .slice ia il ik], .agg #[.int .i64 k, .string xtab, .slice ya yn yc, .slice za zn zc, .slice va vn vc, .bool star, .slice xA xq xc, .slice fA 1 fc, .slice hA hq hc, .slice uA uq uc, .slice pA pq pc, .int .i64 lim]] w (RetV (.bool true) w) := by
  have HLV := Lib.hid lives_any
  have HSM := Lib.hid HSM
  have HFX := Lib.hid HFX
  have HFH := Lib.hid HFH
  have HFU := Lib.hid HFU
  go_enter Tryz.func4, Tryz.ntmps4
  go_wp2_with (first
    | (go_at_call 6; (with_reducible refine (HLV.out _).mono ?_); rintro e wa ⟨rfl, hB⟩
       have HBa := Lib.hid ((BX.two w _ _).keep hB)
       obtain ⟨sa0, sa1, sa2, sa3, sa4, sa5, sa6, sa7, sa8, sa9, sa10, sa11, sa12, sa13⟩ := HBa.out.two12
       clear hB)
    | (go_at_call 7; (with_reducible refine (HSM.out _ HBa.out.below).mono ?_); rintro e wb ⟨rfl, hB⟩
       have HBb := Lib.hid (HBa.out.keep hB)
       obtain ⟨sb0, sb1, sb2, sb3, sb4, sb5, sb6, sb7, sb8, sb9, sb10, sb11, sb12, sb13⟩ := HBb.out.two12
       clear hB)
    | (go_at_call 8; (with_reducible refine (HFX.out _ HBb.out.below).mono ?_); rintro e wc ⟨rfl, hB⟩
       have HBc := Lib.hid (HBb.out.keep hB)
       obtain ⟨sc0, sc1, sc2, sc3, sc4, sc5, sc6, sc7, sc8, sc9, sc10, sc11, sc12, sc13⟩ := HBc.out.two12
       clear hB)
    | (go_at_call 8; (with_reducible refine (HFH.out _ HBc.out.below).mono ?_); rintro e wd ⟨rfl, hB⟩
       have HBd := Lib.hid (HBc.out.keep hB)
       obtain ⟨sd0, sd1, sd2, sd3, sd4, sd5, sd6, sd7, sd8, sd9, sd10, sd11, sd12, sd13⟩ := HBd.out.two12
       clear hB)
    | (go_at_call 8; (with_reducible refine (HFU.out _ HBd.out.below).mono ?_); rintro e we ⟨rfl, hB⟩
       have HBe := Lib.hid (HBd.out.keep hB)
       obtain ⟨se0, se1, se2, se3, se4, se5, se6, se7, se8, se9, se10, se11, se12, se13⟩ := HBe.out.two12
       clear hB)
    | (go_at_call 6; (with_reducible refine (HLV.out _).mono ?_); rintro e wz ⟨rfl, hB⟩
       have HBz := Lib.hid (HBe.out.keep hB)
       clear hB)
    | fail)
  go_ret
  exact ⟨rfl, HBz.out.below⟩
set_option maxRecDepth 100000 in
set_option maxHeartbeats 16000000 in
theorem as_go (_n : Nat) (_ts : List (Tab × List Col)) (w : World) (A : Option Addr) (m c : Nat) (ia : Option Addr) (il ik : Nat) (k : Int) (xtab : ByteArray) (ya : Option Addr) (yn yc : Nat) (za : Option Addr) (zn zc : Nat) (va : Option Addr) (vn vc : Nat) (star : Bool) (xA : Option Addr) (xq xc : Nat) (fA : Option Addr) (fc : Nat) (hA : Option Addr) (hq hc : Nat) (uA : Option Addr) (uq uc : Nat) (pA : Option Addr) (pq pc : Nat) (lim : Int) (_b1 _b2 _b3 _b4 : Bool) (HSM : ∀ W, Below w.heap.size w W → Calls Tryz.prog 7 #[.agg #[.slice A m c, .slice ia il ik]] W (RetV (.bool true) W)) (HFX : ∀ W, Below w.heap.size w W → Calls Tryz.prog 8 #[.slice xA xq xc] W (RetV (.bool true) W)) (HFH : ∀ W, Below w.heap.size w W → Calls Tryz.prog 8 #[.slice hA hq hc] W (RetV (.bool true) W)) (HFU : ∀ W, Below w.heap.size w W → Calls Tryz.prog 8 #[.slice uA uq uc] W (RetV (.bool true) W)) (c6 : ((12 : Int) < (pq : Int)) = False)
    (HSEG : ∀ a W, S2b w a → BX w [.cells #[.slice A m c, .slice ia il ik] 25, .cells #[.int .i64 k, .string xtab, .slice ya yn yc, .slice za zn zc, .slice va vn vc, .bool star, .slice xA xq xc, .slice fA 1 fc, .slice hA hq hc, .slice uA uq uc, .slice pA pq pc, .int .i64 lim] 33] W → (bfC 2).wp Tryz.prog (bodyPost Tryz.prog Tryz.f4 (RetV (.bool true) w)) a W) : Calls Tryz.prog 4 #[.agg #[.slice A m c, .slice ia il ik], .agg #[.int .i64 k, .string xtab, .slice ya yn yc, .slice za zn zc, .slice va vn vc, .bool star, .slice xA xq xc, .slice fA 1 fc, .slice hA hq hc, .slice uA uq uc, .slice pA pq pc, .int .i64 lim]] w (RetV (.bool true) w) := by
  have HLV := Lib.hid lives_any
  have HSM := Lib.hid HSM
  have HFX := Lib.hid HFX
  have HFH := Lib.hid HFH
  have HFU := Lib.hid HFU
  have HS := Lib.hid HSEG
  clear HSEG
  go_enter Tryz.func4, Tryz.ntmps4
  refine wp_seq_k fun K0 hK0 => ?_
  have HK0 := Lib.hid hK0
  clear hK0
  go_wp2_with fail
  refine HK0.out _ _ ?_
  refine wp_seq_k fun K1 hK1 => ?_
  have HK1 := Lib.hid (show ∀ a w', (bfC 2).wp Tryz.prog (bodyPost Tryz.prog Tryz.f4 (RetV (.bool true) w)) a w' → K1 a w' from hK1)
  clear hK1
  go_wp2_with (first
    | (go_at_call 6; (with_reducible refine (HLV.out _).mono ?_); rintro e wa ⟨rfl, hB⟩
       have HBa := Lib.hid ((BX.two w _ _).keep hB)
       obtain ⟨sa0, sa1, sa2, sa3, sa4, sa5, sa6, sa7, sa8, sa9, sa10, sa11, sa12, sa13⟩ := HBa.out.two12
       clear hB)
    | (go_at_call 7; (with_reducible refine (HSM.out _ HBa.out.below).mono ?_); rintro e wb ⟨rfl, hB⟩
       have HBb := Lib.hid (HBa.out.keep hB)
       obtain ⟨sb0, sb1, sb2, sb3, sb4, sb5, sb6, sb7, sb8, sb9, sb10, sb11, sb12, sb13⟩ := HBb.out.two12
       clear hB)
    | (go_at_call 8; (with_reducible refine (HFX.out _ HBb.out.below).mono ?_); rintro e wc ⟨rfl, hB⟩
       have HBc := Lib.hid (HBb.out.keep hB)
       obtain ⟨sc0, sc1, sc2, sc3, sc4, sc5, sc6, sc7, sc8, sc9, sc10, sc11, sc12, sc13⟩ := HBc.out.two12
       clear hB)
    | (go_at_call 8; (with_reducible refine (HFH.out _ HBc.out.below).mono ?_); rintro e wd ⟨rfl, hB⟩
       have HBd := Lib.hid (HBc.out.keep hB)
       obtain ⟨sd0, sd1, sd2, sd3, sd4, sd5, sd6, sd7, sd8, sd9, sd10, sd11, sd12, sd13⟩ := HBd.out.two12
       clear hB)
    | (go_at_call 8; (with_reducible refine (HFU.out _ HBd.out.below).mono ?_); rintro e we ⟨rfl, hB⟩
       have HBe := Lib.hid (HBd.out.keep hB)
       obtain ⟨se0, se1, se2, se3, se4, se5, se6, se7, se8, se9, se10, se11, se12, se13⟩ := HBe.out.two12
       clear hB)
    | fail)
  refine HK1.out _ _ (HS.out _ _ ⟨?_, ?_, ?_, ?_⟩ HBe.out) <;> rfl
set_option maxRecDepth 100000 in
set_option maxHeartbeats 16000000 in
theorem as2 (n : Nat) (_ts : List (Tab × List Col)) (w : World) (A : Option Addr) (m c : Nat) (ia : Option Addr) (il ik : Nat) (k : Int) (xtab : ByteArray) (ya : Option Addr) (yn yc : Nat) (za : Option Addr) (zn zc : Nat) (va : Option Addr) (vn vc : Nat) (star : Bool) (xA : Option Addr) (xq xc : Nat) (fb fo fc : Nat) (hA : Option Addr) (hq hc : Nat) (uA : Option Addr) (uq uc : Nat) (pA : Option Addr) (pq pc : Nat) (lim : Int) (ol : List (Ex × Bool)) (a : Act) (W : World) (hS : S2b w a) (hM : BX w [.cells #[.slice A m c, .slice ia il ik] 25, .cells #[.int .i64 k, .string xtab, .slice ya yn yc, .slice za zn zc, .slice va vn vc, .bool star, .slice xA xq xc, .slice (some ⟨fb, fo, none⟩) 1 fc, .slice hA hq hc, .slice uA uq uc, .slice pA pq pc, .int .i64 lim] 33] W) (hpq : pq = ol.length) (hO : CellsAt W 11 pA (ol.map ordL)) (hOE : ∀ o ∈ ol, ExAt W n o.1 ∧ StrX n o.1)
    (HSEG : (∀ o ∈ ol, fewR n [o.1] = true) → ∀ a W', S2b w a → BX w [.cells #[.slice A m c, .slice ia il ik] 25, .cells #[.int .i64 k, .string xtab, .slice ya yn yc, .slice za zn zc, .slice va vn vc, .bool star, .slice xA xq xc, .slice (some ⟨fb, fo, none⟩) 1 fc, .slice hA hq hc, .slice uA uq uc, .slice pA pq pc, .int .i64 lim] 33] W' → (bfC 3).wp Tryz.prog (bodyPost Tryz.prog Tryz.f4 (RetV (.bool true) w)) a W') : (bfC 2).wp Tryz.prog (bodyPost Tryz.prog Tryz.f4 (RetV (.bool true) w)) a W := by
  have HSEG := Lib.hid HSEG
  have HM := Lib.hid hM
  have HO := Lib.hid hO
  have HOE := Lib.hid hOE
  have HON := Lib.hid hpq
  have hqm : pq ≤ 9223372036854775807 := by have := hO.1; rw [List.length_map, ← hpq] at this; exact this
  clear hM hO hOE hpq
  obtain ⟨s0, s1, s2, s3, s4, s5, s6, s7, s8, s9, s10, s11, s12, s13⟩ := HM.out.two12
  obtain ⟨u, hu, hug⟩ := open142 hS.size
  have p2 := hS.s2; have p3 := hS.s3
  have hdf := hS.df
  rw [hug _ (by omega)] at p2 p3
  obtain ⟨tm, df⟩ := a
  dsimp only at hu hdf
  subst hu hdf
  clear hS hug
  rw [p2, p3]
  clear p2 p3
  conv => arg 2; whnf
  refine wp_seq_k fun K hK => ?_
  have HK := Lib.hid (show ∀ a w', (bfC 3).wp Tryz.prog (bodyPost Tryz.prog Tryz.f4 (RetV (.bool true) w)) a w' → K a w' from hK)
  clear hK
  go_wp2_with fail
  clear s0 s1 s2 s3 s4 s5 s6 s7 s8 s9 s10 s11 s12 s13
  refine wp_loop (fun a' wr => S2b w a' ∧ a'.tmps.getD 54 undef = .slice pA pq pc ∧ a'.tmps.getD 55 undef = .int .i64 pq ∧ ∃ (j : Nat), j ≤ pq ∧ a'.tmps.getD 56 undef = .int .i64 j ∧ Hid (Below W.heap.size W wr) ∧ Hid (∀ i o, i < j → ol[i]? = some o → fewR n [o.1] = true)) (fun a' _ => pq - (intOf (a'.tmps.getD 56 undef)).toNat) ?start ?round
  case start =>
    refine ⟨⟨?_, ?_, ?_, ?_⟩, ?_, ?_, 0, Nat.zero_le _, ?_, Lib.hid (Below.refl _ _), Lib.hid fun i o h => absurd h (Nat.not_lt_zero _)⟩
    all_goals rfl
  case round =>
    rintro a wr ⟨hS, hsl, hln, j, hj, hix, HB, HW⟩
    obtain ⟨u, hu, hug⟩ := open142 hS.size
    have p2 := hS.s2; have p3 := hS.s3
    have hdf := hS.df
    rw [hug _ (by omega)] at p2 p3 hsl hln hix
    obtain ⟨tm, df⟩ := a
    dsimp only at hu hdf
    subst hu hdf
    clear hS hug
    rw [p2, p3, hsl, hln, hix]
    clear p2 p3 hsl hln hix
    by_cases hjq : j < pq
    · have hjn : ((j : Int) < (pq : Int)) = True := eq_true (by omega)
      obtain ⟨o, ho⟩ : ∃ o, ol[j]? = some o := ⟨_, List.getElem?_eq_getElem (by have := HON.out; omega)⟩
      have HJ := Lib.hid ho
      obtain ⟨eb, eo, rfl, heb, hyc⟩ := setl_at HO.out (x := ordL o) (by rw [List.getElem?_map, ho]; rfl)
      have hoe := HOE.out o (List.mem_of_getElem? ho)
      obtain ⟨y, od⟩ := o
      dsimp only at hoe
      have t0 : wr.cell? ⟨eb, eo + j * 11, none⟩ = some (.int .i64 y.kind) := cell_kept (hyc 0 _ rfl) HB.out
      have t1 := cell_kept (hyc 1 _ rfl) HB.out
      have t2 := cell_kept (hyc 2 _ rfl) HB.out
      have t3 := cell_kept (hyc 3 _ rfl) HB.out
      have t4 := cell_kept (hyc 4 _ rfl) HB.out
      have t5 := cell_kept (hyc 5 _ rfl) HB.out
      have t6 := cell_kept (hyc 6 _ rfl) HB.out
      have t7 := cell_kept (hyc 7 _ rfl) HB.out
      have t8 := cell_kept (hyc 8 _ rfl) HB.out
      have t9 := cell_kept (hyc 9 _ rfl) HB.out
      have t10 := cell_kept (hyc 10 _ rfl) HB.out
      have sf := store_float
      have HSZ := Lib.hid HB.out.size
      have HF := Lib.hid (fun O => one_few n y wr O (hoe.1.keep HB.out) hoe.2)
      have HBL := fun O O2 => Lib.hid ((below1 wr O).alloc (below1 wr O).size O2)
      have HNX := Lib.hid (show fewR n [y] = true → ∀ i o, i < j + 1 → ol[i]? = some o → fewR n [o.1] = true from fun h i o hi hoo => by
        by_cases e : i = j
        · subst e
          have h1 := HJ.out
          rw [hoo] at h1
          rw [Option.some.inj h1]
          exact h
        · exact HW.out i o (by omega) hoo)
      obtain ⟨b, hb⟩ : ∃ b, b = fewR n [y] := ⟨_, rfl⟩
      rw [← hb] at HF HNX
      clear hyc hoe ho hb
      cases b with
      | false =>
        go_wp2_with (first
          | (go_at_call 8; (with_reducible refine (HF.out _).mono ?_); rintro e w5 ⟨rfl, hB5⟩
             have HB5 := Lib.hid (HB.out.trans (((HBL _ _).out.trans (hB5.mono (HBL _ _).out.size)).mono HSZ.out))
             clear hB5)
          | fail)
        exact bodyPost_ret (results_tmp rfl _ _ _) rfl ⟨rfl, HM.out.below.trans (HB5.out.mono HM.out.below.size)⟩
      | true =>
        have HW2 := Lib.hid (HNX.out rfl)
        go_wp2_with (first
          | (go_at_call 8; (with_reducible refine (HF.out _).mono ?_); rintro e w5 ⟨rfl, hB5⟩
             have HB5 := Lib.hid (HB.out.trans (((HBL _ _).out.trans (hB5.mono (HBL _ _).out.size)).mono HSZ.out))
             clear hB5)
          | fail)
        refine ⟨⟨⟨?_, ?_, ?_, ?_⟩, ?_, ?_, j + 1, by omega, ?_, HB5, HW2⟩, ?_⟩
        all_goals first | rfl | skip
        show pq - (intOf (.int .i64 _)).toNat < pq - (intOf (.int .i64 _)).toNat
        simp [intOf] <;> omega
    · obtain rfl : j = pq := by omega
      have hjn : ((j : Int) < (j : Int)) = False := eq_false (by omega)
      have HWF : ∀ o ∈ ol, fewR n [o.1] = true := fun o ho => by
        obtain ⟨i, hi, rfl⟩ := List.mem_iff_getElem.1 ho
        exact HW.out i _ (by have := HON.out; omega) (List.getElem?_eq_getElem hi)
      go_wp2_with fail
      refine HK.out _ _ (HSEG.out HWF _ _ ⟨?_, ?_, ?_, ?_⟩ (HM.out.keep HB.out))
      all_goals rfl
theorem from_two {w : World} {fb fo : Nat} {tn was : ByteArray} (h : CellsAt w 2 (some ⟨fb, fo, none⟩) [fromL (tn, was)]) : w.cell? ⟨fb, fo, none⟩ = some (.string tn) ∧ w.cell? ⟨fb, fo + 1, none⟩ = some (.string was) := by
  rcases h.2 with h0 | ⟨b, off, e, _, h3⟩
  · cases h0
  · cases e
    have h1 := (h3 0 _ rfl).2
    exact ⟨h1 0 _ rfl, h1 1 _ rfl⟩
set_option maxRecDepth 100000 in
set_option maxHeartbeats 16000000 in
theorem as3 (n : Nat) (_ts : List (Tab × List Col)) (w : World) (A : Option Addr) (m c : Nat) (ia : Option Addr) (il ik : Nat) (k : Int) (xtab : ByteArray) (ya : Option Addr) (yn yc : Nat) (za : Option Addr) (zn zc : Nat) (va : Option Addr) (vn vc : Nat) (star : Bool) (xA : Option Addr) (xq xc : Nat) (fb fo fc : Nat) (hA : Option Addr) (hq hc : Nat) (uA : Option Addr) (uq uc : Nat) (pA : Option Addr) (pq pc : Nat) (lim : Int) (tn was : ByteArray) (a : Act) (W : World) (hS : S2b w a) (hM : BX w [.cells #[.slice A m c, .slice ia il ik] 25, .cells #[.int .i64 k, .string xtab, .slice ya yn yc, .slice za zn zc, .slice va vn vc, .bool star, .slice xA xq xc, .slice (some ⟨fb, fo, none⟩) 1 fc, .slice hA hq hc, .slice uA uq uc, .slice pA pq pc, .int .i64 lim] 33] W) (hf : CellsAt W 2 (some ⟨fb, fo, none⟩) [fromL (tn, was)])
    (HSEG : was ≠ otherN → ∀ yb frb a W', S4 w yb a → DS w [.cells #[.slice A m c, .slice ia il ik] 25, .cells #[.int .i64 k, .string xtab, .slice ya yn yc, .slice za zn zc, .slice va vn vc, .bool star, .slice xA xq xc, .slice (some ⟨fb, fo, none⟩) 1 fc, .slice hA hq hc, .slice uA uq uc, .slice pA pq pc, .int .i64 lim] 33] yb #[.int .i64 k, .string xtab, .slice ya yn yc, .slice za zn zc, .slice va vn vc, .bool star, .slice xA xq xc, .slice (some ⟨frb, 0, none⟩) 1 1, .slice hA hq hc, .slice uA uq uc, .slice pA pq pc, .int .i64 lim] (FX n frb tn none [] none [] none [] []) (.slice none 0 0) 0 [] W' → (bfC 7).wp Tryz.prog (bodyPost Tryz.prog Tryz.f4 (RetV (.bool true) w)) a W') : (bfC 3).wp Tryz.prog (bodyPost Tryz.prog Tryz.f4 (RetV (.bool true) w)) a W := by
  obtain ⟨f0, f1⟩ := from_two hf
  have HSEG := Lib.hid HSEG
  have HM := Lib.hid hM
  have lz := World.block_lt_of_cell? W _ f0
  have l1 := heap_lt (hM.row 1 _ _ rfl)
  have hsz := hM.below.size
  clear hM hf
  obtain ⟨s0, s1, s2, s3, s4, s5, s6, s7, s8, s9, s10, s11, s12, s13⟩ := HM.out.two12
  have HST := Lib.hid (show DS w [.cells #[.slice A m c, .slice ia il ik] 25, .cells #[.int .i64 k, .string xtab, .slice ya yn yc, .slice za zn zc, .slice va vn vc, .bool star, .slice xA xq xc, .slice (some ⟨fb, fo, none⟩) 1 fc, .slice hA hq hc, .slice uA uq uc, .slice pA pq pc, .int .i64 lim] 33] W.heap.size #[.int .i64 k, .string xtab, .slice ya yn yc, .slice za zn zc, .slice va vn vc, .bool star, .slice xA xq xc, .slice (some ⟨W.heap.size + 1, 0, none⟩) 1 1, .slice hA hq hc, .slice uA uq uc, .slice pA pq pc, .int .i64 lim] (FX n (W.heap.size + 1) tn none [] none [] none [] []) (.slice none 0 0) 0 [] ((W.alloc (.cells #[.int .i64 k, .string xtab, .slice ya yn yc, .slice za zn zc, .slice va vn vc, .bool star, .slice xA xq xc, .slice (some ⟨W.heap.size + 1, 0, none⟩) 1 1, .slice hA hq hc, .slice uA uq uc, .slice pA pq pc, .int .i64 lim] 33)).alloc (.cells #[.string tn, .string otherN] 60)) from by
    have hB2 : Below W.heap.size W ((W.alloc (.cells #[.int .i64 k, .string xtab, .slice ya yn yc, .slice za zn zc, .slice va vn vc, .bool star, .slice xA xq xc, .slice (some ⟨W.heap.size + 1, 0, none⟩) 1 1, .slice hA hq hc, .slice uA uq uc, .slice pA pq pc, .int .i64 lim] 33)).alloc (.cells #[.string tn, .string otherN] 60)) := (below1 W _).alloc (below1 W _).size _
    refine ⟨HM.out.keep hB2, ?_, l1, World.ownsRow_nil _ _ _ _, ⟨⟨?_, fun _ a ha => ?_⟩, SetX.nil _ _ _, SetX.nil _ _ _, SetX.nil _ _ _, fun o ho => by cases ho⟩⟩
    · rw [heap_alloc_old _ _ (by simp)]; exact heap_alloc_new W _
    · refine ⟨by show 1 ≤ maxLen; unfold maxLen; omega, Or.inr ⟨W.heap.size + 1, 0, rfl, by simp, fun j x hx => ?_⟩⟩
      have hj : j = 0 := by have := (List.getElem?_eq_some_iff.1 hx).1; simpa using this
      subst hj
      cases hx
      refine ⟨rfl, fun i v hv => ?_⟩
      rw [cell_of_row _ _ (0 + 0 * 2 + i) _ _ _ (alloc_at2 (W.alloc _) _ _ (World.size_alloc _ _)), show 0 + 0 * 2 + i = i by omega]
      simpa using hv
    · cases ha
      exact ⟨Nat.lt_succ_self _, fun e => by cases e⟩)
  have HBV := Lib.hid (show Below W.heap.size W ((W.alloc (.cells #[.int .i64 k, .string xtab, .slice ya yn yc, .slice za zn zc, .slice va vn vc, .bool star, .slice xA xq xc, .slice (some ⟨W.heap.size + 1, 0, none⟩) 1 1, .slice hA hq hc, .slice uA uq uc, .slice pA pq pc, .int .i64 lim] 33)).alloc (.cells #[.string tn, .string otherN] 60)) from (below1 W _).alloc (below1 W _).size _)
  unfold otherN at HST HBV
  obtain ⟨u, hu, hug⟩ := open142 hS.size
  have p2 := hS.s2; have p3 := hS.s3
  have hdf := hS.df
  rw [hug _ (by omega)] at p2 p3
  obtain ⟨tm, df⟩ := a
  dsimp only at hu hdf
  subst hu hdf
  clear hS hug
  rw [p2, p3]
  clear p2 p3
  conv => arg 2; whnf
  refine wp_seq_k fun K0 hK0 => ?_
  have HK0 := Lib.hid hK0
  clear hK0
  go_wp2_with fail
  refine HK0.out _ _ ?_
  refine wp_seq_k fun K1 hK1 => ?_
  have HK1 := Lib.hid hK1
  clear hK1
  go_wp2_with fail
  refine HK1.out _ _ ?_
  generalize (W.alloc (.cells #[.int .i64 k, .string xtab, .slice ya yn yc, .slice za zn zc, .slice va vn vc, .bool star, .slice xA xq xc, .slice (some ⟨W.heap.size + 1, 0, none⟩) 1 1, .slice hA hq hc, .slice uA uq uc, .slice pA pq pc, .int .i64 lim] 33)).alloc (.cells #[.string tn, .string ⟨#[111, 116, 104, 101, 114]⟩] 60) = V at HST HBV ⊢
  have g0 := cell_kept f0 HBV.out
  have g1 := cell_kept f1 HBV.out
  clear f0 f1 lz l1 hsz HM s0 s1 s2 s3 s4 s5 s6 s7 s8 s9 s10 s11 s12 s13
  obtain ⟨s0, s1, s2, s3, s4, s5, s6, s7, s8, s9, s10, s11, s12, s13⟩ := HST.out.bx.two12
  by_cases hw : was = otherN
  · unfold otherN at hw
    subst hw
    clear HSEG
    go_wp2_with fail
    exact bodyPost_ret (results_tmp rfl _ _ _) rfl ⟨rfl, HST.out.bx.below⟩
  · have HS7 := Lib.hid (HSEG.out hw)
    have e1 := str_ne hw
    have e2 := str_neP hw
    unfold otherN at hw e1 e2 HS7
    have e3 : (was.toList == ([111, 116, 104, 101, 114] : List UInt8)) = false := by rw [show ([111, 116, 104, 101, 114] : List UInt8) = (⟨#[111, 116, 104, 101, 114]⟩ : ByteArray).toList from by kernel_rfl]; exact e1
    have e4 : (was.toList = ([111, 116, 104, 101, 114] : List UInt8)) = False := eq_false (beq_eq_false_iff_ne.1 e3)
    clear HSEG
    refine wp_seq_k fun K2 hK2 => ?_
    have HK2 := Lib.hid hK2
    clear hK2
    go_wp2_with fail
    refine HK2.out _ _ ?_
    refine wp_seq_k fun K3 hK3 => ?_
    have HK3 := Lib.hid (show ∀ a w', (bfC 7).wp Tryz.prog (bodyPost Tryz.prog Tryz.f4 (RetV (.bool true) w)) a w' → K3 a w' from hK3)
    clear hK3
    go_wp2_with fail
    refine HK3.out _ _ (HS7.out _ _ _ _ ⟨?_, ?_, ?_, ?_, ?_, ?_⟩ HST.out)
    all_goals rfl
end Go.Proofs.YthdmfaepjemopaaGreatDoor
