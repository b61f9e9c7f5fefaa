/- lives: a table of one or two columns. What is bound is sound: each column stands within the row of all, with its type. The walk of sound: each column of a node stands within the row. The walks of the document's Same, SameAll, ints: what is the same is told so. The walks of the document's small functions on expressions: Fold, parts, op, in. The walk of BindAs's called: an expression whose columns go by the other name. The walk of the document's op: may an expression have its sign? -/
import Derived.Test.YthdmfaepjemopaaGreatDoorQBB
import Derived.Test.YthdmfaepjemopaaGreatDoorQAZ
import Derived.Test.YthdmfaepjemopaaGreatDoorQAV
import Derived.Test.YthdmfaepjemopaaGreatDoorQAE
import Derived.Test.YthdmfaepjemopaaGreatDoorQAF
import Derived.Deep.RegionLaw
import Derived.Test.YthdmfaepjemopaaGreatDoorQAT
namespace Go.Proofs.YthdmfaepjemopaaGreatDoor
open Go.RowKit

theorem info81 : (Tryz.prog.info? 81).map (fun i => (i.zero, i.size, i.bytes)) = some (some (.agg #[.string ⟨#[]⟩, .int .i64 0, .bool false]), 3, 32) := by kernel_rfl
def colsT (tys : List Int) : List Col := (tys.zip [wA, wB]).map fun p => ⟨p.2, p.1, false⟩
@[reducible] def tbR (nm : ByteArray) (v : Value) : Array Value := #[.string nm, v, .int .i64 1, .int .i64 1, .int .i64 0]
@[reducible] def tbZ : Array Value := #[.string ⟨#[]⟩, .slice none 0 0, .int .i64 0, .int .i64 0, .int .i64 0]
structure TB (w : World) (nm : ByteArray) (v : Value) (k : Nat) (xs : List Value) (W : World) : Prop where
  bx : BX w [.cells tbZ 65, .cells (tbR nm v) 65] W
  own : W.ownsRow (w.heap.size + 2) 81 3 v k xs
theorem TB.keep {w : World} {nm : ByteArray} {v : Value} {k : Nat} {xs : List Value} {W W' : World} (h : TB w nm v k xs W) (hB : Below W.heap.size W W') : TB w nm v k xs W' := ⟨h.bx.keep hB, own_kept h.own hB (Nat.le_refl _)⟩
theorem BX.t5 {w W : World} {bs : List Obj} (h : BX w bs W) (k : Nat) {v0 v1 v2 v3 v4 : Value} {ty : TypeId} (hk : bs[k]? = some (.cells #[v0, v1, v2, v3, v4] ty)) : w.heap.size + k < W.heap.size ∧ W.cell? ⟨w.heap.size + k, 0, none⟩ = some v0 ∧ W.cell? ⟨w.heap.size + k, 1, none⟩ = some v1 ∧ W.cell? ⟨w.heap.size + k, 2, none⟩ = some v2 ∧ W.cell? ⟨w.heap.size + k, 3, none⟩ = some v3 ∧ W.cell? ⟨w.heap.size + k, 4, none⟩ = some v4 ∧ W.frozen? ⟨w.heap.size + k, 0, none⟩ = false ∧ W.frozen? ⟨w.heap.size + k, 1, none⟩ = false ∧ W.frozen? ⟨w.heap.size + k, 2, none⟩ = false ∧ W.frozen? ⟨w.heap.size + k, 3, none⟩ = false ∧ W.frozen? ⟨w.heap.size + k, 4, none⟩ = false := by
  have h1 := h.2 k _ hk
  exact ⟨heap_lt h1, cell_of_row _ _ 0 _ _ _ h1, cell_of_row _ _ 1 _ _ _ h1, cell_of_row _ _ 2 _ _ _ h1, cell_of_row _ _ 3 _ _ _ h1, cell_of_row _ _ 4 _ _ _ h1, frozen_of_row _ _ 0 _ _ h1, frozen_of_row _ _ 1 _ _ h1, frozen_of_row _ _ 2 _ _ h1, frozen_of_row _ _ 3 _ _ h1, frozen_of_row _ _ 4 _ _ h1⟩
theorem BX.set5 {w W : World} {bs : List Obj} {k : Nat} {u0 u1 u2 u3 u4 : Value} {ty : TypeId} {fr : Nat × Nat} (h : BX w bs W) (hk : bs[k]? = some (.cells #[u0, u1, u2, u3, u4] ty fr)) {v0 v1 v2 v3 v4 : Value} : BX w (bs.set k (.cells #[v0, v1, v2, v3, v4] ty fr)) (((((W.setCell ⟨w.heap.size + k, 0, none⟩ v0).setCell ⟨w.heap.size + k, 1, none⟩ v1).setCell ⟨w.heap.size + k, 2, none⟩ v2).setCell ⟨w.heap.size + k, 3, none⟩ v3).setCell ⟨w.heap.size + k, 4, none⟩ v4) := by
  have hl := (List.getElem?_eq_some_iff.1 hk).1
  have h1 := h.set hk 0 v0
  change BX w (bs.set k (.cells #[v0, u1, u2, u3, u4] ty fr)) _ at h1
  have h2 := h1.set (List.getElem?_set_self hl) 1 v1
  rw [List.set_set] at h2
  change BX w (bs.set k (.cells #[v0, v1, u2, u3, u4] ty fr)) _ at h2
  have h3 := h2.set (List.getElem?_set_self hl) 2 v2
  rw [List.set_set] at h3
  change BX w (bs.set k (.cells #[v0, v1, v2, u3, u4] ty fr)) _ at h3
  have h4 := h3.set (List.getElem?_set_self hl) 3 v3
  rw [List.set_set] at h4
  change BX w (bs.set k (.cells #[v0, v1, v2, v3, u4] ty fr)) _ at h4
  have h5 := h4.set (List.getElem?_set_self hl) 4 v4
  rw [List.set_set] at h5
  change BX w (bs.set k (.cells #[v0, v1, v2, v3, v4] ty fr)) _ at h5
  exact h5
theorem res_tb {fn : Func} {i : Nat} (h : fn.results = #[.cell i 65]) {tm : Array Value} {W : World} {eb : Nat} (he : tm[i]?.getD undef = .pointer (some ⟨eb, 0, none⟩)) {u0 u1 u2 u3 u4 : Value} {ty : TypeId} (h2 : W.heap[eb]? = some (.cells #[u0, u1, u2, u3, u4] ty)) :
    (results fn tm).run Tryz.prog W = .ok (.agg #[u0, u1, u2, u3, u4]) W := by
  have b0 := cell_of_row _ _ 0 _ _ _ h2
  have b1 := cell_of_row _ _ 1 _ _ _ h2
  have b2 := cell_of_row _ _ 2 _ _ _ h2
  have b3 := cell_of_row _ _ 3 _ _ _ h2
  have b4 := cell_of_row _ _ 4 _ _ _ h2
  simp [results, h, go_sem, he, b0, b1, b2, b3, b4]
theorem TB.app {w : World} {nm : ByteArray} {v v2 : Value} {k k2 : Nat} {xs xs2 : List Value} {W W1 W2 : World} {O O2 : Obj} (h : TB w nm v k xs W) (hW : W1 = (W.alloc O).alloc O2) (hown : W2.ownsRow (w.heap.size + 2) 81 3 v2 k2 xs2) (hg : W1.grownBy W2 v.ownBlock) : TB w nm v2 k2 xs2 (W2.setCell ⟨w.heap.size + 1, 1, none⟩ v2) := by
  subst hW
  have h2 := ((h.bx.alloc O).alloc O2).grown hg (fun b e => (own_base h.own b e).1)
  exact ⟨h2.set (k := 1) rfl 1 v2, own_far hown (by omega) v2⟩
set_option maxRecDepth 100000 in
set_option maxHeartbeats 16000000 in
theorem mktab_any (nm : ByteArray) (tb c : Nat) (tys : List Int) (w : World) (hn : tys.length ≤ 2) (ht : ∀ (j : Nat) (t : Int), tys[j]? = some t → w.cell? ⟨tb, j, none⟩ = some (.int .i64 t)) (_htb : tb < w.heap.size) :
    Calls Tryz.prog 18 #[.string nm, .slice (some ⟨tb, 0, none⟩) tys.length c] w (fun e w' => ∃ v, e = .returned (.agg (tbR nm v)) ∧ Below w.heap.size w w' ∧ w'.ownsRow w.heap.size 81 3 v tys.length (((colsT tys).take tys.length).map colL).flatten) := by
  have HT := Lib.hid ht
  clear ht
  obtain ⟨n, hnn⟩ : ∃ n, n = tys.length := ⟨_, rfl⟩
  have HN := Lib.hid hnn
  rw [← hnn] at hn ⊢
  clear hnn
  go_enter Tryz.func18, Tryz.ntmps18
  go_wp2_with fail
  go_loopw [6, 7, 12] (fun _ _ z wr => ∃ (k : Nat) (v : Value), k ≤ n ∧ z = .int .i64 k ∧ Hid (TB w nm v k (((colsT tys).take k).map colL).flatten wr)) (fun _ _ z _ => n - (intOf z).toNat)
  case atStart => exact ⟨0, .slice none 0 0, Nat.zero_le _, rfl, Lib.hid ⟨BX.two w _ _, World.ownsRow_nil _ _ _ _⟩⟩
  case round =>
    obtain ⟨k, v, hk, rfl, HB⟩ := hrel
    obtain ⟨wo, rfl⟩ : ∃ wo : World, wo = wr := ⟨_, rfl⟩
    obtain ⟨ib, ib0, ib1, ib2, ib3, ib4, jb0, jb1, jb2, jb3, jb4⟩ := HB.out.bx.t5 1 rfl
    have hq3 : ∀ O O' : Obj, ((wo.alloc O).alloc O').heap[wo.heap.size + 1]? = some O' := fun O O' => by have := heap_alloc_new (wo.alloc O) O'; rwa [World.size_alloc] at this
    by_cases hlt : k < n
    · have hk2 : k = 0 ∨ k = 1 := by omega
      rcases hk2 with rfl | rfl
      · have hg : ∃ t, tys[0]? = some t := ⟨_, List.getElem?_eq_getElem (by have := HN.out; omega)⟩
        obtain ⟨t, htk⟩ := hg
        have q0 := cell_kept (HT.out 0 t htk) HB.out.bx.below
        have hltn : ((0 : Int) < (n : Int)) = True := eq_true (by omega)
        have hcv := one_text wo 97 97 rfl
        have HNEXT := Lib.hid (show (((colsT tys).take (0 + 1)).map colL).flatten = (((colsT tys).take 0).map colL).flatten ++ [.string wA, .int .i64 t, .bool false] from by
          rw [List.take_add_one]
          have hz : (tys.zip [wA, wB])[0]? = some (t, wA) := List.getElem?_zip_eq_some.2 ⟨htk, rfl⟩
          have : (colsT tys)[0]? = some ⟨wA, t, false⟩ := by unfold colsT; rw [List.getElem?_map, hz]; rfl
          rw [this]
          simp [colL])
        clear htk
        go_wp2_with (first
          | (at_builtin
             go_loud (refine list_one 26 81 3 32 (.agg #[.string ⟨#[]⟩, .int .i64 0, .bool false]) Tryz.underlying26 info81 rfl (by omega) (by omega) _ rfl _ _ rfl (w.heap.size + 2) _ 0 (((colsT tys).take 0).map colL).flatten rfl (own_kept HB.out.own (((Below.refl _ _).alloc (Nat.le_refl _) _).alloc (by simp) _) (Nat.le_refl _)) _ 1 [.string ⟨#[97]⟩, .int .i64 t, .bool false] rfl rfl rfl (hq3 _ _) (by omega) (by have := HB.out.bx.size 1 (by simp); simp only [World.size_alloc]; omega) ?_)
             intro v4 w4 hown4 hgr4 hv4
             obtain ⟨A4, k4, rfl⟩ := own_slice hown4
             have HB4 := Lib.hid (HB.out.app rfl hown4 hgr4)
             obtain ⟨lc, c0, c1, c2, c3, c4, d0, d1, d2, d3, d4⟩ := (((HB.out.bx.alloc _).alloc _).grown hgr4 (fun b e => (own_base HB.out.own b e).1)).t5 1 rfl
             clear hown4 hgr4 hv4)
          | fail)
        go_roundw
        case rel => exact ⟨1, _, by omega, by go_num, by rw [HNEXT.out]; exact HB4⟩
        case measure => simp [intOf] <;> omega
      · have hg : ∃ t, tys[1]? = some t := ⟨_, List.getElem?_eq_getElem (by have := HN.out; omega)⟩
        obtain ⟨t, htk⟩ := hg
        have q0 := cell_kept (HT.out 1 t htk) HB.out.bx.below
        have hltn : ((1 : Int) < (n : Int)) = True := eq_true (by omega)
        have hcv := one_text wo 98 98 rfl
        have HNEXT := Lib.hid (show (((colsT tys).take (1 + 1)).map colL).flatten = (((colsT tys).take 1).map colL).flatten ++ [.string wB, .int .i64 t, .bool false] from by
          rw [List.take_add_one]
          have hz : (tys.zip [wA, wB])[1]? = some (t, wB) := List.getElem?_zip_eq_some.2 ⟨htk, rfl⟩
          have : (colsT tys)[1]? = some ⟨wB, t, false⟩ := by unfold colsT; rw [List.getElem?_map, hz]; rfl
          rw [this]
          simp [colL])
        clear htk
        go_wp2_with (first
          | (at_builtin
             go_loud (refine list_one 26 81 3 32 (.agg #[.string ⟨#[]⟩, .int .i64 0, .bool false]) Tryz.underlying26 info81 rfl (by omega) (by omega) _ rfl _ _ rfl (w.heap.size + 2) _ 1 (((colsT tys).take 1).map colL).flatten rfl (own_kept HB.out.own (((Below.refl _ _).alloc (Nat.le_refl _) _).alloc (by simp) _) (Nat.le_refl _)) _ 1 [.string ⟨#[98]⟩, .int .i64 t, .bool false] rfl rfl rfl (hq3 _ _) (by omega) (by have := HB.out.bx.size 1 (by simp); simp only [World.size_alloc]; omega) ?_)
             intro v4 w4 hown4 hgr4 hv4
             obtain ⟨A4, k4, rfl⟩ := own_slice hown4
             have HB4 := Lib.hid (HB.out.app rfl hown4 hgr4)
             obtain ⟨lc, c0, c1, c2, c3, c4, d0, d1, d2, d3, d4⟩ := (((HB.out.bx.alloc _).alloc _).grown hgr4 (fun b e => (own_base HB.out.own b e).1)).t5 1 rfl
             clear hown4 hgr4 hv4)
          | fail)
        go_roundw
        case rel => exact ⟨2, _, by omega, by go_num, by rw [HNEXT.out]; exact HB4⟩
        case measure => simp [intOf] <;> omega
    · obtain rfl : k = n := by omega
      obtain ⟨A9, c9, rfl⟩ := own_slice HB.out.own
      have hltn : ((k : Int) < (k : Int)) = False := eq_false (by omega)
      obtain ⟨la, a0, a1, a2, a3, a4, e0, e1, e2, e3, e4⟩ := HB.out.bx.t5 0 rfl
      simp only [Nat.add_zero] at la a0 a1 a2 a3 a4 e0 e1 e2 e3 e4
      go_wp2_with fail
      have HF := (HB.out.bx.set5 (k := 0) (v0 := .string nm) (v1 := .slice A9 k c9) (v2 := .int .i64 1) (v3 := .int .i64 1) (v4 := .int .i64 0) rfl)
      have hown := own_low (base' := w.heap.size) (own_far (own_far (own_far (own_far (own_far HB.out.own (b := w.heap.size) (i := 0) (by omega) (.string nm)) (b := w.heap.size) (i := 1) (by omega) (.slice A9 k c9)) (b := w.heap.size) (i := 2) (by omega) (.int .i64 1)) (b := w.heap.size) (i := 3) (by omega) (.int .i64 1)) (b := w.heap.size) (i := 4) (by omega) (.int .i64 0)) (by omega)
      exact bodyPost_ret (res_tb (fn := Tryz.f18) rfl rfl (HF.row0 _ _ rfl)) rfl ⟨_, rfl, HF.below, hown⟩
end Go.Proofs.YthdmfaepjemopaaGreatDoor
namespace Go.Proofs.YthdmfaepjemopaaGreatDoor
open Go.RowKit
theorem typeR_err {k : Int} {l : List Int} {e : Int} (h : typeR k l = .error e) : e = 70 := by
  unfold typeR at h
  split at h <;> (repeat' split at h) <;> cases h <;> rfl
end Go.Proofs.YthdmfaepjemopaaGreatDoor
namespace Go.Proofs.YthdmfaepjemopaaGreatDoor
open Go.RowKit

theorem nd_elem {cl : Vl → Vl} {ok : Nat → Prop} {W : World} {n : Nat} {x : List Value} {q : Nd} (h : NdAt cl ok W n x q) : ∃ A m c, x = ndL q (cl q.lit) A m c := by
  cases n with
  | zero => exact h.elim
  | succ n =>
    obtain ⟨A, c, vs, h1, _⟩ := h
    exact ⟨A, vs.length, c, h1⟩
theorem nd_open {cl : Vl → Vl} {ok : Nat → Prop} {W : World} {n : Nat} {p : Nd} {A : Option Addr} {q c : Nat} (h : NdAt cl ok W (n + 1) (ndL p (cl p.lit) A q c) p) : ∃ vs, q = vs.length ∧ CellsAt W 10 A vs ∧ NdsAt cl ok W n vs p.args := by
  obtain ⟨A', c', vs, e, hC, hO, hl, hE⟩ := h
  have e9 := congrArg (fun l => l[9]?) e
  have e9 : some (Value.slice A q c) = some (Value.slice A' vs.length c') := e9
  injection e9 with e9
  injection e9 with e1 e2 e3
  subst e1 e2 e3
  exact ⟨vs, rfl, hC, hl, hE⟩
theorem nd_get {cl : Vl → Vl} {ok : Nat → Prop} {W : World} {n : Nat} {A : Option Addr} {vs : List (List Value)} {ps : List Nd} (hC : CellsAt W 10 A vs) (hN : NdsAt cl ok W n vs ps) {j : Nat} {p : Nd} (hp : ps[j]? = some p) : ∃ (b off : Nat) (A' : Option Addr) (m c : Nat), A = some ⟨b, off, none⟩ ∧ b < W.heap.size ∧ NdAt cl ok W n (ndL p (cl p.lit) A' m c) p ∧ ∀ (i : Nat) (u : Value), (ndL p (cl p.lit) A' m c)[i]? = some u → W.cell? ⟨b, off + j * 10 + i, none⟩ = some u := by
  have hj : j < vs.length := by have := (List.getElem?_eq_some_iff.1 hp).1; rw [hN.1]; exact this
  have hx := List.getElem?_eq_getElem hj
  have h1 := hN.2 j _ p hx hp
  obtain ⟨A', m, c, e⟩ := nd_elem h1
  rw [e] at hx h1
  obtain ⟨b, off, h2, h3, h4⟩ := setl_at hC hx
  exact ⟨b, off, A', m, c, h2, h3, h1, h4⟩
end Go.Proofs.YthdmfaepjemopaaGreatDoor
namespace Go.Proofs.YthdmfaepjemopaaGreatDoor
open Go.RowKit

def vlV (v : Vl) : Value := .agg #[.int .i64 v.k, .int .i64 v.n, .float .f64 v.f, .string v.s]
set_option maxRecDepth 100000 in
set_option maxHeartbeats 16000000 in
theorem same_step (p : Nd) (v v' : Vl) (A : Option Addr) (q c : Nat) (A' : Option Addr) (c' : Nat) (w : World) (HEX : ∀ W, Calls Tryz.prog 50 #[vlV v, vlV v'] W (RetV (.bool true) W)) (HALL : ∀ W, Below w.heap.size w W → Calls Tryz.prog 17 #[.slice A q c, .slice A' q c'] W (RetV (.bool true) W)) :
    Calls Tryz.prog 28 #[ndV p v A q c, ndV p v' A' q c'] w (RetV (.bool true) w) := by
  unfold ndV
  unfold vlV at HEX
  obtain ⟨vk, vn, vf, vs⟩ := v
  obtain ⟨uk, un, uf, us⟩ := v'
  obtain ⟨k, hk⟩ : ∃ k, k = p.kind := ⟨_, rfl⟩
  obtain ⟨po, hpo⟩ : ∃ k, k = p.op := ⟨_, rfl⟩
  obtain ⟨pp, hpp⟩ : ∃ k, k = p.pos := ⟨_, rfl⟩
  obtain ⟨pn, hpn⟩ : ∃ k, k = p.neg := ⟨_, rfl⟩
  obtain ⟨pt, hpt⟩ : ∃ k, k = p.ty := ⟨_, rfl⟩
  rw [← hk, ← hpo, ← hpp, ← hpn, ← hpt]
  dsimp only at HEX ⊢
  have HE := Lib.hid HEX
  have HA := Lib.hid HALL
  clear HEX HALL hk hpo hpp hpn hpt
  have sf := store_float
  go_enter Tryz.func28, Tryz.ntmps28
  go_wp2_with (first
    | (go_at_call 50; (with_reducible refine (HE.out _).mono ?_); rintro e w2 ⟨rfl, hB2⟩
       have HB2 := Lib.hid ((BX.two w _ _).keep hB2)
       have r0 := HB2.out.row0 _ _ rfl
       have r1 := HB2.out.row 1 _ _ rfl
       have x9 := cell_of_row _ _ 9 _ _ _ r0
       have y9 := cell_of_row _ _ 9 _ _ _ r1
       clear hB2 r0 r1)
    | (go_at_call 17; (with_reducible refine (HA.out _ HB2.out.below).mono ?_); rintro e w3 ⟨rfl, hB3⟩
       have HB3 := Lib.hid (HB2.out.keep hB3)
       clear hB3)
    | fail)
  go_ret
  exact ⟨rfl, HB3.out.below⟩
set_option maxRecDepth 100000 in
set_option maxHeartbeats 16000000 in
theorem sameall_step (cl cl' : Vl → Vl) (ok ok' : Nat → Prop) (n : Nat) (ps : List Nd) (A : Option Addr) (vs : List (List Value)) (c : Nat) (A' : Option Addr) (vs' : List (List Value)) (c' : Nat) (w : World) (hC : CellsAt w 10 A vs) (hN : NdsAt cl ok w n vs ps) (hC' : CellsAt w 10 A' vs') (hN' : NdsAt cl' ok' w n vs' ps)
    (HI : ∀ p ∈ ps, ∀ (A : Option Addr) (q c : Nat) (A' : Option Addr) (q' c' : Nat) (W : World), Below w.heap.size w W → NdAt cl ok W n (ndL p (cl p.lit) A q c) p → NdAt cl' ok' W n (ndL p (cl' p.lit) A' q' c') p → Calls Tryz.prog 28 #[ndV p (cl p.lit) A q c, ndV p (cl' p.lit) A' q' c'] W (RetV (.bool true) W)) :
    Calls Tryz.prog 17 #[.slice A ps.length c, .slice A' ps.length c'] w (RetV (.bool true) w) := by
  have HC := Lib.hid hC
  have HN := Lib.hid hN
  have HC' := Lib.hid hC'
  have HN' := Lib.hid hN'
  have HH := Lib.hid HI
  obtain ⟨q, hq⟩ : ∃ m, m = ps.length := ⟨_, rfl⟩
  have HQ := Lib.hid hq
  have hqm : q ≤ 9223372036854775807 := by rw [hq, ← hN.1]; exact hC.1
  rw [← hq]
  clear hC hN hC' hN' HI hq
  have g0 : ((q : Int) != (q : Int)) = false := by simp
  have sf := store_float
  go_enter Tryz.func17, Tryz.ntmps17
  go_wp2_with fail
  go_loopw [5] (fun i wr => ∃ (j : Nat), j ≤ q ∧ i = .int .i64 j ∧ Hid (Below w.heap.size w wr)) (fun i _ => q - (intOf i).toNat)
  case atStart => exact ⟨0, Nat.zero_le _, rfl, Lib.hid (Below.refl _ _)⟩
  case round =>
    obtain ⟨j, hj, rfl, HBW⟩ := hrel
    obtain ⟨wo, rfl⟩ : ∃ wo : World, wo = wr := ⟨_, rfl⟩
    by_cases hjq : j < q
    · have hjn : ((j : Int) < (q : Int)) = True := eq_true (by omega)
      obtain ⟨y, hy⟩ : ∃ y, ps[j]? = some y := ⟨_, List.getElem?_eq_getElem (by have := HQ.out; omega)⟩
      obtain ⟨eb, eo, A1, m1, c1, rfl, heb, hN1, hyc⟩ := nd_get HC.out HN.out hy
      obtain ⟨fb, fo, A2, m2, c2, rfl, hfb, hN2, hzc⟩ := nd_get HC'.out HN'.out hy
      have HCL := Lib.hid (show Calls Tryz.prog 28 #[ndV y (cl y.lit) A1 m1 c1, ndV y (cl' y.lit) A2 m2 c2] wo.drew (RetV (.bool true) wo.drew) from by
        have hB := HBW.out.drew
        exact HH.out y (List.mem_of_getElem? hy) A1 m1 c1 A2 m2 c2 _ hB (hN1.keep hB) (hN2.keep hB))
      obtain ⟨v, hv⟩ : ∃ v, v = cl y.lit := ⟨_, rfl⟩
      obtain ⟨v', hv'⟩ : ∃ v, v = cl' y.lit := ⟨_, rfl⟩
      rw [← hv] at hyc
      rw [← hv'] at hzc
      rw [← hv, ← hv'] at HCL
      have t0 : wo.cell? ⟨eb, eo + j * 10, none⟩ = some (.int .i64 y.kind) := cell_kept (hyc 0 _ rfl) HBW.out
      have t1 := cell_kept (hyc 1 _ rfl) HBW.out
      have t2 := cell_kept (hyc 2 _ rfl) HBW.out
      have t3 := cell_kept (hyc 3 _ rfl) HBW.out
      have t4 := cell_kept (hyc 4 _ rfl) HBW.out
      have t5 := cell_kept (hyc 5 _ rfl) HBW.out
      have t6 := cell_kept (hyc 6 _ rfl) HBW.out
      have t7 := cell_kept (hyc 7 _ rfl) HBW.out
      have t8 := cell_kept (hyc 8 _ rfl) HBW.out
      have t9 := cell_kept (hyc 9 _ rfl) HBW.out
      have z0 : wo.cell? ⟨fb, fo + j * 10, none⟩ = some (.int .i64 y.kind) := cell_kept (hzc 0 _ rfl) HBW.out
      have z1 := cell_kept (hzc 1 _ rfl) HBW.out
      have z2 := cell_kept (hzc 2 _ rfl) HBW.out
      have z3 := cell_kept (hzc 3 _ rfl) HBW.out
      have z4 := cell_kept (hzc 4 _ rfl) HBW.out
      have z5 := cell_kept (hzc 5 _ rfl) HBW.out
      have z6 := cell_kept (hzc 6 _ rfl) HBW.out
      have z7 := cell_kept (hzc 7 _ rfl) HBW.out
      have z8 := cell_kept (hzc 8 _ rfl) HBW.out
      have z9 := cell_kept (hzc 9 _ rfl) HBW.out
      clear hyc hN1 hzc hN2 hy hv hv'
      go_wp2_with fail
      go_region_law (first
        | (go_simp; go_at_call 28; (with_reducible refine HCL.out.mono ?_); rintro e w5 ⟨rfl, hB5⟩
           have HB5 := Lib.hid (HBW.out.trans (((Below.refl _ wo).drew.trans hB5).mono HBW.out.size))
           clear hB5)
        | fail)
      all_goals
        go_wp2_with fail
        go_roundw
        case rel => exact ⟨j + 1, by omega, by go_num, HB5⟩
        case measure => simp [intOf] <;> omega
    · obtain rfl : j = q := by omega
      have hjn : ((j : Int) < (j : Int)) = False := eq_false (by omega)
      go_wp2_with fail
      go_ret
      exact ⟨rfl, HBW.out⟩
theorem same_any (cl cl' : Vl → Vl) (ok ok' : Nat → Prop) (HEX : ∀ v W, Calls Tryz.prog 50 #[vlV (cl v), vlV (cl' v)] W (RetV (.bool true) W)) : ∀ (n : Nat) (p : Nd) (A : Option Addr) (q c : Nat) (A' : Option Addr) (q' c' : Nat) (w : World), NdAt cl ok w n (ndL p (cl p.lit) A q c) p → NdAt cl' ok' w n (ndL p (cl' p.lit) A' q' c') p → Calls Tryz.prog 28 #[ndV p (cl p.lit) A q c, ndV p (cl' p.lit) A' q' c'] w (RetV (.bool true) w)
  | 0, _, _, _, _, _, _, _, _, h, _ => h.elim
  | n + 1, p, A, q, c, A', q', c', w, h, h' => by
    obtain ⟨vs, rfl, hC, hN⟩ := nd_open h
    obtain ⟨vs', rfl, hC', hN'⟩ := nd_open h'
    rw [hN.1, hN'.1]
    exact same_step p _ _ A _ c A' c' w (HEX p.lit) fun W hB => sameall_step cl cl' ok ok' n p.args A vs c A' vs' c' W (CellsAt.keep hB hC) (hN.keep hB) (CellsAt.keep hB hC') (hN'.keep hB) fun p _ A q c A' q' c' W _ h h' => same_any cl cl' ok ok' HEX n p A q c A' q' c' W h h'
theorem sameall_any (cl cl' : Vl → Vl) (ok ok' : Nat → Prop) (HEX : ∀ v W, Calls Tryz.prog 50 #[vlV (cl v), vlV (cl' v)] W (RetV (.bool true) W)) (n : Nat) (ps : List Nd) (A : Option Addr) (vs : List (List Value)) (c : Nat) (A' : Option Addr) (vs' : List (List Value)) (c' : Nat) (w : World) (hC : CellsAt w 10 A vs) (hN : NdsAt cl ok w n vs ps) (hC' : CellsAt w 10 A' vs') (hN' : NdsAt cl' ok' w n vs' ps) : Calls Tryz.prog 17 #[.slice A vs.length c, .slice A' vs'.length c'] w (RetV (.bool true) w) := by
  rw [hN.1, hN'.1]
  exact sameall_step cl cl' ok ok' n ps A vs c A' vs' c' w hC hN hC' hN' fun p _ A q c A' q' c' W _ h h' => same_any cl cl' ok ok' HEX n p A q c A' q' c' W h h'
end Go.Proofs.YthdmfaepjemopaaGreatDoor
namespace Go.Proofs.YthdmfaepjemopaaGreatDoor
open Go.RowKit

def ariI (k : Int) : Int := match arity k with
  | some m => (m : Int)
  | none => -1
theorem foldK_no {k : Int} (h : foldK k = false) : k ≠ 10 ∧ k ≠ 11 ∧ k ≠ 12 ∧ k ≠ 13 := by
  unfold foldK at h
  simp at h
  omega
theorem foldK_yes {k : Int} (h : foldK k = true) : k = 10 ∨ k = 11 ∨ k = 12 ∨ k = 13 := by
  unfold foldK at h
  simp at h
  omega
set_option maxRecDepth 100000 in
set_option maxHeartbeats 16000000 in
theorem rfold_10 (op : ByteArray) (lk ln : Int) (lf : Nat) (ls tn nm : ByteArray) (ng : Bool) (xa : Option Addr) (q xc : Nat) (w : World) : Calls Tryz.prog 45 #[.agg #[.int .i64 10, .string op, .int .i64 lk, .int .i64 ln, .float .f64 lf, .string ls, .string tn, .string nm, .bool ng, .slice xa q xc]] w (RetV (.bool true) w) := by
  have sf := store_float
  go_enter Tryz.func45, Tryz.ntmps45
  go_wp2_with fail
  go_ret
  exact ⟨rfl, by go_grown⟩
set_option maxRecDepth 100000 in
set_option maxHeartbeats 16000000 in
theorem rfold_11 (op : ByteArray) (lk ln : Int) (lf : Nat) (ls tn nm : ByteArray) (ng : Bool) (xa : Option Addr) (q xc : Nat) (w : World) : Calls Tryz.prog 45 #[.agg #[.int .i64 11, .string op, .int .i64 lk, .int .i64 ln, .float .f64 lf, .string ls, .string tn, .string nm, .bool ng, .slice xa q xc]] w (RetV (.bool true) w) := by
  have sf := store_float
  go_enter Tryz.func45, Tryz.ntmps45
  go_wp2_with fail
  go_ret
  exact ⟨rfl, by go_grown⟩
set_option maxRecDepth 100000 in
set_option maxHeartbeats 16000000 in
theorem rfold_12 (op : ByteArray) (lk ln : Int) (lf : Nat) (ls tn nm : ByteArray) (ng : Bool) (xa : Option Addr) (q xc : Nat) (w : World) : Calls Tryz.prog 45 #[.agg #[.int .i64 12, .string op, .int .i64 lk, .int .i64 ln, .float .f64 lf, .string ls, .string tn, .string nm, .bool ng, .slice xa q xc]] w (RetV (.bool true) w) := by
  have sf := store_float
  go_enter Tryz.func45, Tryz.ntmps45
  go_wp2_with fail
  go_ret
  exact ⟨rfl, by go_grown⟩
set_option maxRecDepth 100000 in
set_option maxHeartbeats 16000000 in
theorem rfold_13 (op : ByteArray) (lk ln : Int) (lf : Nat) (ls tn nm : ByteArray) (ng : Bool) (xa : Option Addr) (q xc : Nat) (w : World) : Calls Tryz.prog 45 #[.agg #[.int .i64 13, .string op, .int .i64 lk, .int .i64 ln, .float .f64 lf, .string ls, .string tn, .string nm, .bool ng, .slice xa q xc]] w (RetV (.bool true) w) := by
  have sf := store_float
  go_enter Tryz.func45, Tryz.ntmps45
  go_wp2_with fail
  go_ret
  exact ⟨rfl, by go_grown⟩
set_option maxRecDepth 100000 in
set_option maxHeartbeats 16000000 in
theorem rfold_no (k : Int) (op : ByteArray) (lk ln : Int) (lf : Nat) (ls tn nm : ByteArray) (ng : Bool) (xa : Option Addr) (q xc : Nat) (w : World) (hk : foldK k = false) : Calls Tryz.prog 45 #[.agg #[.int .i64 k, .string op, .int .i64 lk, .int .i64 ln, .float .f64 lf, .string ls, .string tn, .string nm, .bool ng, .slice xa q xc]] w (RetV (.bool false) w) := by
  obtain ⟨h1, h2, h3, h4⟩ := foldK_no hk
  have e1 : (k == 10) = false := beq_eq_false_iff_ne.2 h1
  have e2 : (k == 11) = false := beq_eq_false_iff_ne.2 h2
  have e3 : (k == 12) = false := beq_eq_false_iff_ne.2 h3
  have e4 : (k == 13) = false := beq_eq_false_iff_ne.2 h4
  clear h1 h2 h3 h4 hk
  have sf := store_float
  go_enter Tryz.func45, Tryz.ntmps45
  go_wp2_with fail
  go_ret
  exact ⟨rfl, by go_grown⟩
theorem rfold_any (x : Ex) (w : World) : Calls Tryz.prog 45 #[exV x] w (RetV (.bool (foldK x.kind)) w) := by
  obtain ⟨k, op, ⟨lk, ln, lf, ls⟩, tn, nm, ng, xa, xc, xs⟩ := x
  unfold exV
  dsimp only [Ex.kind, Ex.op, Ex.lit, Ex.table, Ex.name, Ex.neg, Ex.A, Ex.c, Ex.args]
  cases h : foldK k with
  | false => exact rfold_no k op lk ln lf ls tn nm ng xa xs.length xc w h
  | true =>
    rcases foldK_yes h with rfl | rfl | rfl | rfl
    · exact rfold_10 op lk ln lf ls tn nm ng xa xs.length xc w
    · exact rfold_11 op lk ln lf ls tn nm ng xa xs.length xc w
    · exact rfold_12 op lk ln lf ls tn nm ng xa xs.length xc w
    · exact rfold_13 op lk ln lf ls tn nm ng xa xs.length xc w
set_option maxRecDepth 100000 in
set_option maxHeartbeats 16000000 in
theorem rparts_1 (op : ByteArray) (lk ln : Int) (lf : Nat) (ls tn nm : ByteArray) (ng : Bool) (xa : Option Addr) (q xc : Nat) (w : World) : Calls Tryz.prog 44 #[.agg #[.int .i64 1, .string op, .int .i64 lk, .int .i64 ln, .float .f64 lf, .string ls, .string tn, .string nm, .bool ng, .slice xa q xc]] w (RetV (.int .i64 0) w) := by
  have sf := store_float
  go_enter Tryz.func44, Tryz.ntmps44
  go_wp2_with fail
  go_ret
  exact ⟨rfl, by go_grown⟩
set_option maxRecDepth 100000 in
set_option maxHeartbeats 16000000 in
theorem rparts_2 (op : ByteArray) (lk ln : Int) (lf : Nat) (ls tn nm : ByteArray) (ng : Bool) (xa : Option Addr) (q xc : Nat) (w : World) : Calls Tryz.prog 44 #[.agg #[.int .i64 2, .string op, .int .i64 lk, .int .i64 ln, .float .f64 lf, .string ls, .string tn, .string nm, .bool ng, .slice xa q xc]] w (RetV (.int .i64 0) w) := by
  have sf := store_float
  go_enter Tryz.func44, Tryz.ntmps44
  go_wp2_with fail
  go_ret
  exact ⟨rfl, by go_grown⟩
set_option maxRecDepth 100000 in
set_option maxHeartbeats 16000000 in
theorem rparts_3 (op : ByteArray) (lk ln : Int) (lf : Nat) (ls tn nm : ByteArray) (ng : Bool) (xa : Option Addr) (q xc : Nat) (w : World) : Calls Tryz.prog 44 #[.agg #[.int .i64 3, .string op, .int .i64 lk, .int .i64 ln, .float .f64 lf, .string ls, .string tn, .string nm, .bool ng, .slice xa q xc]] w (RetV (.int .i64 1) w) := by
  have sf := store_float
  go_enter Tryz.func44, Tryz.ntmps44
  go_wp2_with fail
  go_ret
  exact ⟨rfl, by go_grown⟩
set_option maxRecDepth 100000 in
set_option maxHeartbeats 16000000 in
theorem rparts_4 (op : ByteArray) (lk ln : Int) (lf : Nat) (ls tn nm : ByteArray) (ng : Bool) (xa : Option Addr) (q xc : Nat) (w : World) : Calls Tryz.prog 44 #[.agg #[.int .i64 4, .string op, .int .i64 lk, .int .i64 ln, .float .f64 lf, .string ls, .string tn, .string nm, .bool ng, .slice xa q xc]] w (RetV (.int .i64 1) w) := by
  have sf := store_float
  go_enter Tryz.func44, Tryz.ntmps44
  go_wp2_with fail
  go_ret
  exact ⟨rfl, by go_grown⟩
set_option maxRecDepth 100000 in
set_option maxHeartbeats 16000000 in
theorem rparts_5 (op : ByteArray) (lk ln : Int) (lf : Nat) (ls tn nm : ByteArray) (ng : Bool) (xa : Option Addr) (q xc : Nat) (w : World) : Calls Tryz.prog 44 #[.agg #[.int .i64 5, .string op, .int .i64 lk, .int .i64 ln, .float .f64 lf, .string ls, .string tn, .string nm, .bool ng, .slice xa q xc]] w (RetV (.int .i64 2) w) := by
  have sf := store_float
  go_enter Tryz.func44, Tryz.ntmps44
  go_wp2_with fail
  go_ret
  exact ⟨rfl, by go_grown⟩
set_option maxRecDepth 100000 in
set_option maxHeartbeats 16000000 in
theorem rparts_6 (op : ByteArray) (lk ln : Int) (lf : Nat) (ls tn nm : ByteArray) (ng : Bool) (xa : Option Addr) (q xc : Nat) (w : World) : Calls Tryz.prog 44 #[.agg #[.int .i64 6, .string op, .int .i64 lk, .int .i64 ln, .float .f64 lf, .string ls, .string tn, .string nm, .bool ng, .slice xa q xc]] w (RetV (.int .i64 2) w) := by
  have sf := store_float
  go_enter Tryz.func44, Tryz.ntmps44
  go_wp2_with fail
  go_ret
  exact ⟨rfl, by go_grown⟩
set_option maxRecDepth 100000 in
set_option maxHeartbeats 16000000 in
theorem rparts_7 (op : ByteArray) (lk ln : Int) (lf : Nat) (ls tn nm : ByteArray) (ng : Bool) (xa : Option Addr) (q xc : Nat) (w : World) : Calls Tryz.prog 44 #[.agg #[.int .i64 7, .string op, .int .i64 lk, .int .i64 ln, .float .f64 lf, .string ls, .string tn, .string nm, .bool ng, .slice xa q xc]] w (RetV (.int .i64 2) w) := by
  have sf := store_float
  go_enter Tryz.func44, Tryz.ntmps44
  go_wp2_with fail
  go_ret
  exact ⟨rfl, by go_grown⟩
set_option maxRecDepth 100000 in
set_option maxHeartbeats 16000000 in
theorem rparts_8 (op : ByteArray) (lk ln : Int) (lf : Nat) (ls tn nm : ByteArray) (ng : Bool) (xa : Option Addr) (q xc : Nat) (w : World) : Calls Tryz.prog 44 #[.agg #[.int .i64 8, .string op, .int .i64 lk, .int .i64 ln, .float .f64 lf, .string ls, .string tn, .string nm, .bool ng, .slice xa q xc]] w (RetV (.int .i64 2) w) := by
  have sf := store_float
  go_enter Tryz.func44, Tryz.ntmps44
  go_wp2_with fail
  go_ret
  exact ⟨rfl, by go_grown⟩
set_option maxRecDepth 100000 in
set_option maxHeartbeats 16000000 in
theorem rparts_9 (op : ByteArray) (lk ln : Int) (lf : Nat) (ls tn nm : ByteArray) (ng : Bool) (xa : Option Addr) (q xc : Nat) (w : World) : Calls Tryz.prog 44 #[.agg #[.int .i64 9, .string op, .int .i64 lk, .int .i64 ln, .float .f64 lf, .string ls, .string tn, .string nm, .bool ng, .slice xa q xc]] w (RetV (.int .i64 1) w) := by
  have sf := store_float
  go_enter Tryz.func44, Tryz.ntmps44
  go_wp2_with fail
  go_ret
  exact ⟨rfl, by go_grown⟩
set_option maxRecDepth 100000 in
set_option maxHeartbeats 16000000 in
theorem rparts_10 (op : ByteArray) (lk ln : Int) (lf : Nat) (ls tn nm : ByteArray) (ng : Bool) (xa : Option Addr) (q xc : Nat) (w : World) : Calls Tryz.prog 44 #[.agg #[.int .i64 10, .string op, .int .i64 lk, .int .i64 ln, .float .f64 lf, .string ls, .string tn, .string nm, .bool ng, .slice xa q xc]] w (RetV (.int .i64 0) w) := by
  have sf := store_float
  go_enter Tryz.func44, Tryz.ntmps44
  go_wp2_with fail
  go_ret
  exact ⟨rfl, by go_grown⟩
set_option maxRecDepth 100000 in
set_option maxHeartbeats 16000000 in
theorem rparts_11 (op : ByteArray) (lk ln : Int) (lf : Nat) (ls tn nm : ByteArray) (ng : Bool) (xa : Option Addr) (q xc : Nat) (w : World) : Calls Tryz.prog 44 #[.agg #[.int .i64 11, .string op, .int .i64 lk, .int .i64 ln, .float .f64 lf, .string ls, .string tn, .string nm, .bool ng, .slice xa q xc]] w (RetV (.int .i64 1) w) := by
  have sf := store_float
  go_enter Tryz.func44, Tryz.ntmps44
  go_wp2_with fail
  go_ret
  exact ⟨rfl, by go_grown⟩
set_option maxRecDepth 100000 in
set_option maxHeartbeats 16000000 in
theorem rparts_12 (op : ByteArray) (lk ln : Int) (lf : Nat) (ls tn nm : ByteArray) (ng : Bool) (xa : Option Addr) (q xc : Nat) (w : World) : Calls Tryz.prog 44 #[.agg #[.int .i64 12, .string op, .int .i64 lk, .int .i64 ln, .float .f64 lf, .string ls, .string tn, .string nm, .bool ng, .slice xa q xc]] w (RetV (.int .i64 1) w) := by
  have sf := store_float
  go_enter Tryz.func44, Tryz.ntmps44
  go_wp2_with fail
  go_ret
  exact ⟨rfl, by go_grown⟩
set_option maxRecDepth 100000 in
set_option maxHeartbeats 16000000 in
theorem rparts_13 (op : ByteArray) (lk ln : Int) (lf : Nat) (ls tn nm : ByteArray) (ng : Bool) (xa : Option Addr) (q xc : Nat) (w : World) : Calls Tryz.prog 44 #[.agg #[.int .i64 13, .string op, .int .i64 lk, .int .i64 ln, .float .f64 lf, .string ls, .string tn, .string nm, .bool ng, .slice xa q xc]] w (RetV (.int .i64 1) w) := by
  have sf := store_float
  go_enter Tryz.func44, Tryz.ntmps44
  go_wp2_with fail
  go_ret
  exact ⟨rfl, by go_grown⟩
set_option maxRecDepth 100000 in
set_option maxHeartbeats 16000000 in
theorem rparts_no (k : Int) (op : ByteArray) (lk ln : Int) (lf : Nat) (ls tn nm : ByteArray) (ng : Bool) (xa : Option Addr) (q xc : Nat) (w : World) (hk : k ≠ 1 ∧ k ≠ 2 ∧ k ≠ 10 ∧ k ≠ 3 ∧ k ≠ 4 ∧ k ≠ 9 ∧ k ≠ 11 ∧ k ≠ 12 ∧ k ≠ 13 ∧ k ≠ 5 ∧ k ≠ 6 ∧ k ≠ 7 ∧ k ≠ 8) : Calls Tryz.prog 44 #[.agg #[.int .i64 k, .string op, .int .i64 lk, .int .i64 ln, .float .f64 lf, .string ls, .string tn, .string nm, .bool ng, .slice xa q xc]] w (RetV (.int .i64 (-1)) w) := by
  obtain ⟨h1, h2, h10, h3, h4, h9, h11, h12, h13, h5, h6, h7, h8⟩ := hk
  have e1 : (k == 1) = false := beq_eq_false_iff_ne.2 h1
  have e2 : (k == 2) = false := beq_eq_false_iff_ne.2 h2
  have e10 : (k == 10) = false := beq_eq_false_iff_ne.2 h10
  have e3 : (k == 3) = false := beq_eq_false_iff_ne.2 h3
  have e4 : (k == 4) = false := beq_eq_false_iff_ne.2 h4
  have e9 : (k == 9) = false := beq_eq_false_iff_ne.2 h9
  have e11 : (k == 11) = false := beq_eq_false_iff_ne.2 h11
  have e12 : (k == 12) = false := beq_eq_false_iff_ne.2 h12
  have e13 : (k == 13) = false := beq_eq_false_iff_ne.2 h13
  have e5 : (k == 5) = false := beq_eq_false_iff_ne.2 h5
  have e6 : (k == 6) = false := beq_eq_false_iff_ne.2 h6
  have e7 : (k == 7) = false := beq_eq_false_iff_ne.2 h7
  have e8 : (k == 8) = false := beq_eq_false_iff_ne.2 h8
  clear h1 h2 h10 h3 h4 h9 h11 h12 h13 h5 h6 h7 h8
  have sf := store_float
  go_enter Tryz.func44, Tryz.ntmps44
  go_wp2_with fail
  go_ret
  exact ⟨rfl, by go_grown⟩
theorem rparts_any (x : Ex) (w : World) : Calls Tryz.prog 44 #[exV x] w (RetV (.int .i64 (ariI x.kind)) w) := by
  obtain ⟨k, op, ⟨lk, ln, lf, ls⟩, tn, nm, ng, xa, xc, xs⟩ := x
  unfold exV
  dsimp only [Ex.kind, Ex.op, Ex.lit, Ex.table, Ex.name, Ex.neg, Ex.A, Ex.c, Ex.args]
  by_cases h1 : k = 1
  · subst h1
    exact rparts_1 op lk ln lf ls tn nm ng xa xs.length xc w
  by_cases h2 : k = 2
  · subst h2
    exact rparts_2 op lk ln lf ls tn nm ng xa xs.length xc w
  by_cases h10 : k = 10
  · subst h10
    exact rparts_10 op lk ln lf ls tn nm ng xa xs.length xc w
  by_cases h3 : k = 3
  · subst h3
    exact rparts_3 op lk ln lf ls tn nm ng xa xs.length xc w
  by_cases h4 : k = 4
  · subst h4
    exact rparts_4 op lk ln lf ls tn nm ng xa xs.length xc w
  by_cases h9 : k = 9
  · subst h9
    exact rparts_9 op lk ln lf ls tn nm ng xa xs.length xc w
  by_cases h11 : k = 11
  · subst h11
    exact rparts_11 op lk ln lf ls tn nm ng xa xs.length xc w
  by_cases h12 : k = 12
  · subst h12
    exact rparts_12 op lk ln lf ls tn nm ng xa xs.length xc w
  by_cases h13 : k = 13
  · subst h13
    exact rparts_13 op lk ln lf ls tn nm ng xa xs.length xc w
  by_cases h5 : k = 5
  · subst h5
    exact rparts_5 op lk ln lf ls tn nm ng xa xs.length xc w
  by_cases h6 : k = 6
  · subst h6
    exact rparts_6 op lk ln lf ls tn nm ng xa xs.length xc w
  by_cases h7 : k = 7
  · subst h7
    exact rparts_7 op lk ln lf ls tn nm ng xa xs.length xc w
  by_cases h8 : k = 8
  · subst h8
    exact rparts_8 op lk ln lf ls tn nm ng xa xs.length xc w
  have e : ariI k = -1 := by
    unfold ariI arity
    rw [if_neg (by omega), if_neg (by omega), if_neg (by omega)]
  rw [e]
  exact rparts_no k op lk ln lf ls tn nm ng xa xs.length xc w ⟨h1, h2, h10, h3, h4, h9, h11, h12, h13, h5, h6, h7, h8⟩
set_option maxRecDepth 100000 in
set_option maxHeartbeats 16000000 in
theorem in_any (t : Int) (A : Option Addr) (c : Nat) (l : List Int) (w : World) (h : IntsAt w A l) : Calls Tryz.prog 73 #[.int .i64 t, .slice A l.length c] w (fun e w' => e = .returned (.bool (likeT t l)) ∧ w = w') := by
  have HA := Lib.hid h
  obtain ⟨R, hR⟩ : ∃ R, R = likeT t l := ⟨_, rfl⟩
  rw [← hR]
  have HY : Hid (∀ (j : Nat), l[j]? = some t → R = true) := Lib.hid fun j hj => by
    rw [hR]
    unfold likeT
    rw [Bool.or_eq_true, List.contains_iff_mem]
    exact Or.inr (List.mem_of_getElem? hj)
  have HN : Hid ((∀ (j : Nat) (z : Int), l[j]? = some z → z ≠ t) → R = (t == 0)) := Lib.hid fun hz => by
    rw [hR]
    unfold likeT
    have : l.contains t = false := by
      rw [Bool.eq_false_iff]
      intro h
      obtain ⟨i, hi, he⟩ := List.mem_iff_getElem.1 (List.contains_iff_mem.1 h)
      exact hz i _ (List.getElem?_eq_getElem hi) he
    rw [this, Bool.or_false]
  obtain ⟨q, hq⟩ : ∃ m, m = l.length := ⟨_, rfl⟩
  have HQ := Lib.hid hq
  have hqm : q ≤ 9223372036854775807 := by rw [hq]; exact h.1
  rw [← hq]
  clear h hq hR
  go_enter Tryz.func73, Tryz.ntmps73
  go_wp2_with fail
  go_loopw [5] (fun i wr => ∃ (j : Nat), j ≤ q ∧ i = .int .i64 j ∧ Hid (∀ i z, i < j → l[i]? = some z → z ≠ t) ∧ wr = w) (fun i _ => q - (intOf i).toNat)
  case atStart => exact ⟨0, Nat.zero_le _, rfl, Lib.hid fun i z h => absurd h (Nat.not_lt_zero _), rfl⟩
  case round =>
    obtain ⟨j, hj, rfl, HS, hwr⟩ := hrel
    subst hwr
    by_cases hjq : j < q
    · have hjn : ((j : Int) < (q : Int)) = True := eq_true (by omega)
      obtain ⟨z, hz⟩ : ∃ y, l[j]? = some y := ⟨_, List.getElem?_eq_getElem (by have := HQ.out; omega)⟩
      have HJ := Lib.hid hz
      obtain ⟨eb, eo, rfl, heb, ht⟩ := int_at HA.out hz
      have t0 := ht
      clear hz ht
      by_cases hzt : z = t
      · have g1 : (z == t) = true := beq_iff_eq.2 hzt
        have hR2 : R = true := HY.out j (by rw [HJ.out, hzt])
        clear hzt
        go_wp2_with fail
        go_ret
        exact ⟨by first | rfl | (rw [hR2]; rfl), rfl⟩
      · have g1 : (z == t) = false := beq_eq_false_iff_ne.2 hzt
        have HS2 := Lib.hid (show ∀ i y, i < j + 1 → l[i]? = some y → y ≠ t from fun i y hi hy => by
          by_cases e : i = j
          · subst e
            have h1 := HJ.out
            rw [hy] at h1
            rw [Option.some.inj h1]
            exact hzt
          · exact HS.out i y (by omega) hy)
        clear hzt
        go_wp2_with fail
        go_roundw
        case rel => exact ⟨j + 1, by omega, by go_num, HS2, by first | rfl | trivial⟩
        case measure => simp [intOf] <;> omega
    · obtain rfl : j = q := by omega
      have hjn : ((j : Int) < (j : Int)) = False := eq_false (by omega)
      have hR2 : R = (t == 0) := HN.out fun i z hz => HS.out i z (by have := (List.getElem?_eq_some_iff.1 hz).1; have := HQ.out; omega) hz
      go_wp2_with fail
      go_ret
      exact ⟨by first | rfl | (rw [hR2]; rfl), rfl⟩
end Go.Proofs.YthdmfaepjemopaaGreatDoor
namespace Go.Proofs.YthdmfaepjemopaaGreatDoor
open Go.RowKit
theorem BX.grown2 {w W W' : World} {bs : List Obj} (h : BX w bs W) {r : Option Nat} (hg : W.grownBy W' r) (hr : ∀ b, r = some b → w.heap.size + bs.length ≤ b) (hz : w.heap.size + bs.length ≤ W.heap.size) : BX w bs W' := by
  refine ⟨h.1.grown hg (by omega) (fun b e => by have := hr b e; omega), fun k o hk => ?_⟩
  have hl := (List.getElem?_eq_some_iff.1 hk).1
  exact (hg.block _ (by omega) (fun e => by have := hr _ e.symm; omega)).trans (h.2 k o hk)
theorem str_ne {s t : ByteArray} (h : s ≠ t) : (s.toList == t.toList) = false := by
  rw [beq_eq_false_iff_ne]
  intro e
  exact h (sameN_iff.1 (show sameN s t = true by unfold sameN; rw [e]; exact beq_self_eq_true _))
theorem str_neP {s t : ByteArray} (h : s ≠ t) : (s.toList = t.toList) = False := eq_false (beq_eq_false_iff_ne.1 (str_ne h))
end Go.Proofs.YthdmfaepjemopaaGreatDoor
namespace Go.Proofs.YthdmfaepjemopaaGreatDoor
open Go.RowKit

noncomputable def roC (k : Nat) : Code := dropC k (Tryz.f46.body.getD .skip)
set_option maxRecDepth 100000 in
theorem open31 {a : Act} (h : a.tmps.size = 31) : ∃ u : Nat → Value, a.tmps = #[u 0, u 1, u 2, u 3, u 4, u 5, u 6, u 7, u 8, u 9, u 10, u 11, u 12, u 13, u 14, u 15, u 16, u 17, u 18, u 19, u 20, u 21, u 22, u 23, u 24, u 25, u 26, u 27, u 28, u 29, u 30] ∧ ∀ t, t < 31 → a.tmps.getD t undef = u t := by
  refine ⟨fun t => a.tmps.getD t undef, ?_, fun t _ => rfl⟩
  have e : a.tmps = ((List.range 31).map fun t => a.tmps.getD t undef).toArray := by
    apply Array.ext
    · simp [h]
    · intro i h1 h2
      simp [h1]
  exact e
structure S46 (w : World) (b m : Nat) (a : Act) : Prop where
  size : a.tmps.size = 31
  df : a.defers = []
  s1 : a.tmps.getD 1 undef = .pointer (some ⟨w.heap.size, 0, none⟩)
  s3 : a.tmps.getD 3 undef = .slice (some ⟨b, 0, none⟩) m m
set_option maxRecDepth 100000 in
set_option maxHeartbeats 16000000 in
theorem rop_tail (k : Int) (o : ByteArray) (lk ln : Int) (lf : Nat) (ls tn nm : ByteArray) (ng : Bool) (xa : Option Addr) (q xc : Nat) (w : World) (ops : List ByteArray) (b m : Nat) (hm : m = ops.length) (R : Bool) (hR : R = (ops.any (sameN · o) || ((k != 8) && (k != 7)))) (a : Act) (W : World) (hS : S46 w b m a) (hB : Below w.heap.size w W) (hX : W.heap[w.heap.size]? = some (.cells #[.int .i64 k, .string o, .int .i64 lk, .int .i64 ln, .float .f64 lf, .string ls, .string tn, .string nm, .bool ng, .slice xa q xc] 41)) (hO : CellsAt W 1 (some ⟨b, 0, none⟩) (ops.map strL)) : (roC 3).wp Tryz.prog (bodyPost Tryz.prog Tryz.f46 (RetV (.bool R) w)) a W := by
  have HB := Lib.hid hB
  have HX := Lib.hid hX
  have HO := Lib.hid hO
  have HM := Lib.hid hm
  have hqm : m ≤ 9223372036854775807 := by have := hO.1; rw [List.length_map, ← hm] at this; exact this
  have HY : Hid (∀ (j : Nat) (s : ByteArray), ops[j]? = some s → s = o → R = true) := Lib.hid fun j s hj hs => by
    rw [hR, Bool.or_eq_true, List.any_eq_true]
    exact Or.inl ⟨s, List.mem_of_getElem? hj, sameN_iff.2 hs⟩
  have HN : Hid ((∀ (j : Nat) (s : ByteArray), ops[j]? = some s → s ≠ o) → R = ((k != 8) && (k != 7))) := Lib.hid fun h => by
    rw [hR]
    have : ops.any (sameN · o) = false := by
      rw [List.any_eq_false]
      intro s hs hh
      obtain ⟨i, hi, rfl⟩ := List.mem_iff_getElem.1 hs
      exact h i _ (List.getElem?_eq_getElem hi) (sameN_iff.1 hh)
    rw [this, Bool.false_or]
  clear hB hX hO hm hR
  obtain ⟨u, hu, hug⟩ := open31 hS.size
  have p1 := hS.s1; have p3 := hS.s3
  have hdf := hS.df
  rw [hug _ (by omega)] at p1 p3
  obtain ⟨tm, df⟩ := a
  dsimp only at hu hdf
  subst hu hdf
  clear hS hug
  rw [p1, p3]
  clear p1 p3
  conv => arg 2; whnf
  go_wp2_with fail
  go_loopw [4] (fun i wr => ∃ (j : Nat), j ≤ m ∧ i = .int .i64 j ∧ Hid (∀ i s, i < j → ops[i]? = some s → s ≠ o) ∧ Hid (Below W.heap.size W wr)) (fun i _ => m - (intOf i).toNat)
  case atStart => exact ⟨0, Nat.zero_le _, rfl, Lib.hid fun i s h => absurd h (Nat.not_lt_zero _), Lib.hid (Below.refl _ _)⟩
  case round =>
    obtain ⟨j, hj, rfl, HS, HBW⟩ := hrel
    obtain ⟨wo, rfl⟩ : ∃ wo : World, wo = wr := ⟨_, rfl⟩
    have HX2 := Lib.hid ((HBW.out.block _ (heap_lt HX.out)).trans HX.out)
    have x1 := cell_of_row _ _ 1 _ _ _ HX2.out
    have x0 := cell_of_row _ _ 0 _ _ _ HX2.out
    by_cases hjq : j < m
    · have hjn : ((j : Int) < (m : Int)) = True := eq_true (by omega)
      obtain ⟨s, hs⟩ : ∃ y, ops[j]? = some y := ⟨_, List.getElem?_eq_getElem (by have := HM.out; omega)⟩
      have HJ := Lib.hid hs
      obtain ⟨eb, eo, hbe, heb, ht⟩ := setl_at HO.out (x := strL s) (by rw [List.getElem?_map, hs]; rfl)
      cases hbe
      have t0 : wo.cell? ⟨b, j, none⟩ = some (.string s) := by
        have := cell_kept (ht 0 _ rfl) HBW.out
        rwa [Nat.mul_one, Nat.add_zero, Nat.zero_add] at this
      clear hs ht
      by_cases hst : s = o
      · have g1 : (s.toList == o.toList) = true := by rw [hst]; exact beq_self_eq_true _
        have g2 : (s.toList = o.toList) = True := eq_true (by rw [hst])
        have hR2 : R = true := HY.out j s HJ.out hst
        clear hst
        go_wp2_with fail
        go_quiet ((fail))
        go_wp2_with fail
        exact bodyPost_ret (results_tmp rfl _ _ _) rfl ⟨by first | rfl | (rw [hR2]; rfl), HB.out.trans ((below_drewN HBW.out nq).mono HB.out.size)⟩
      · have g1 := str_ne hst
        have g2 := str_neP hst
        have HS2 := Lib.hid (show ∀ i y, i < j + 1 → ops[i]? = some y → y ≠ o from fun i y hi hy => by
          by_cases e : i = j
          · subst e
            have h1 := HJ.out
            rw [hy] at h1
            rw [Option.some.inj h1]
            exact hst
          · exact HS.out i y (by omega) hy)
        clear hst
        go_wp2_with fail
        go_quiet ((fail))
        go_wp2_with fail
        go_roundw
        case rel => exact ⟨j + 1, by omega, by go_num, HS2, Lib.hid (below_drewN HBW.out nq)⟩
        case measure => simp [intOf] <;> omega
    · obtain rfl : j = m := by omega
      have hjn : ((j : Int) < (j : Int)) = False := eq_false (by omega)
      have hR2 : R = ((k != 8) && (k != 7)) := HN.out fun i s hs => HS.out i s (by have := (List.getElem?_eq_some_iff.1 hs).1; have := HM.out; omega) hs
      by_cases k8 : k = 8
      · have e8 : (k != 8) = false := bne_eq_false_iff_eq.2 k8
        have e8b : (k = 8) = True := eq_true k8
        have hR3 : R = false := by rw [hR2, e8]; rfl
        clear k8 hR2
        go_wp2_with fail
        exact bodyPost_ret (results_tmp rfl _ _ _) rfl ⟨by first | rfl | (rw [hR3]; rfl) | (rw [hR3]; simp [e8]), HB.out.trans (HBW.out.mono HB.out.size)⟩
      · have e8 : (k != 8) = true := bne_iff_ne.2 k8
        have e8b : (k = 8) = False := eq_false k8
        by_cases k7 : k = 7
        · have e7 : (k != 7) = false := bne_eq_false_iff_eq.2 k7
          have e7b : (k = 7) = True := eq_true k7
          have hR3 : R = false := by rw [hR2, e7, Bool.and_false]
          clear k8 k7 hR2
          go_wp2_with fail
          exact bodyPost_ret (results_tmp rfl _ _ _) rfl ⟨by first | rfl | (rw [hR3]; rfl) | (rw [hR3]; simp [e8, e7]), HB.out.trans (HBW.out.mono HB.out.size)⟩
        · have e7 : (k != 7) = true := bne_iff_ne.2 k7
          have e7b : (k = 7) = False := eq_false k7
          have hR3 : R = true := by rw [hR2, e7, e8]; rfl
          clear k8 k7 hR2
          go_wp2_with fail
          exact bodyPost_ret (results_tmp rfl _ _ _) rfl ⟨by first | rfl | (rw [hR3]; rfl) | (rw [hR3]; simp [e8, e7]), HB.out.trans (HBW.out.mono HB.out.size)⟩
theorem lit_strs (W : World) (l : List ByteArray) (b : Nat) (hb : W.heap.size = b) (hl : l.length ≤ 1000) : CellsAt (W.alloc (.cells (l.map Value.string).toArray 9)) 1 (some ⟨b, 0, none⟩) (l.map strL) := by
  subst hb
  refine ⟨by rw [List.length_map]; unfold maxLen; omega, Or.inr ⟨W.heap.size, 0, rfl, by simp, fun j x hx => ?_⟩⟩
  rw [List.getElem?_map, Option.map_eq_some_iff] at hx
  obtain ⟨s, hs, rfl⟩ := hx
  refine ⟨rfl, fun i v hv => ?_⟩
  have hi : i = 0 := by have := (List.getElem?_eq_some_iff.1 hv).1; unfold strL at this; simpa using this
  subst hi
  cases hv
  rw [cell_of_row _ _ (0 + j * 1 + 0) _ _ _ (heap_alloc_new W _), show 0 + j * 1 + 0 = j by omega]
  simp [hs]
set_option maxRecDepth 100000 in
set_option maxHeartbeats 16000000 in
theorem rop_8 (o : ByteArray) (lk ln : Int) (lf : Nat) (ls tn nm : ByteArray) (ng : Bool) (xa : Option Addr) (q xc : Nat) (w : World) (HT : ∀ a W, S46 w (w.heap.size + 2) 3 a → W = ((w.alloc (.cells #[.int .i64 8, .string o, .int .i64 lk, .int .i64 ln, .float .f64 lf, .string ls, .string tn, .string nm, .bool ng, .slice xa q xc] 41)).alloc (.cells #[.string ⟨#[61]⟩, .string ⟨#[60, 62]⟩, .string ⟨#[60]⟩, .string ⟨#[60, 61]⟩, .string ⟨#[62]⟩, .string ⟨#[62, 61]⟩] 9)).alloc (.cells #[.string ⟨#[43]⟩, .string ⟨#[45]⟩, .string ⟨#[42]⟩] 9) → (roC 3).wp Tryz.prog (bodyPost Tryz.prog Tryz.f46 (RetV (.bool (opOk 8 o)) w)) a W) : Calls Tryz.prog 46 #[.agg #[.int .i64 8, .string o, .int .i64 lk, .int .i64 ln, .float .f64 lf, .string ls, .string tn, .string nm, .bool ng, .slice xa q xc]] w (RetV (.bool (opOk 8 o)) w) := by
  have HS := Lib.hid HT
  clear HT
  have sf := store_float
  go_enter Tryz.func46, Tryz.ntmps46
  refine wp_seq_k fun K0 hK0 => ?_
  have HK0 := Lib.hid hK0
  clear hK0
  go_wp2_with fail
  refine HK0.out _ _ ?_
  refine wp_seq_k fun K1 hK1 => ?_
  have HK1 := Lib.hid hK1
  clear hK1
  go_wp2_with fail
  refine HK1.out _ _ ?_
  refine wp_seq_k fun K2 hK2 => ?_
  have HK2 := Lib.hid (show ∀ a w', (roC 3).wp Tryz.prog (bodyPost Tryz.prog Tryz.f46 (RetV (.bool (opOk 8 o)) w)) a w' → K2 a w' from hK2)
  clear hK2
  go_wp2_with fail
  refine HK2.out _ _ (HS.out _ _ ⟨?_, ?_, ?_, ?_⟩ ?_)
  all_goals rfl
set_option maxRecDepth 100000 in
set_option maxHeartbeats 16000000 in
theorem rop_o (k : Int) (o : ByteArray) (lk ln : Int) (lf : Nat) (ls tn nm : ByteArray) (ng : Bool) (xa : Option Addr) (q xc : Nat) (w : World) (hk : k ≠ 8) (HT : ∀ a W, S46 w (w.heap.size + 1) 6 a → W = (w.alloc (.cells #[.int .i64 k, .string o, .int .i64 lk, .int .i64 ln, .float .f64 lf, .string ls, .string tn, .string nm, .bool ng, .slice xa q xc] 41)).alloc (.cells #[.string ⟨#[61]⟩, .string ⟨#[60, 62]⟩, .string ⟨#[60]⟩, .string ⟨#[60, 61]⟩, .string ⟨#[62]⟩, .string ⟨#[62, 61]⟩] 9) → (roC 3).wp Tryz.prog (bodyPost Tryz.prog Tryz.f46 (RetV (.bool (opOk k o)) w)) a W) : Calls Tryz.prog 46 #[.agg #[.int .i64 k, .string o, .int .i64 lk, .int .i64 ln, .float .f64 lf, .string ls, .string tn, .string nm, .bool ng, .slice xa q xc]] w (RetV (.bool (opOk k o)) w) := by
  have HS := Lib.hid HT
  have g8 : (k == 8) = false := beq_eq_false_iff_ne.2 hk
  have g8b : (k = 8) = False := eq_false hk
  clear HT hk
  have sf := store_float
  go_enter Tryz.func46, Tryz.ntmps46
  refine wp_seq_k fun K0 hK0 => ?_
  have HK0 := Lib.hid hK0
  clear hK0
  go_wp2_with fail
  refine HK0.out _ _ ?_
  refine wp_seq_k fun K1 hK1 => ?_
  have HK1 := Lib.hid hK1
  clear hK1
  go_wp2_with fail
  refine HK1.out _ _ ?_
  refine wp_seq_k fun K2 hK2 => ?_
  have HK2 := Lib.hid (show ∀ a w', (roC 3).wp Tryz.prog (bodyPost Tryz.prog Tryz.f46 (RetV (.bool (opOk k o)) w)) a w' → K2 a w' from hK2)
  clear hK2
  go_wp2_with fail
  refine HK2.out _ _ (HS.out _ _ ⟨?_, ?_, ?_, ?_⟩ ?_)
  all_goals rfl
theorem rop_any (x : Ex) (w : World) : Calls Tryz.prog 46 #[exV x] w (RetV (.bool (opOk x.kind x.op)) w) := by
  obtain ⟨k, o, ⟨lk, ln, lf, ls⟩, tn, nm, ng, xa, xc, xs⟩ := x
  unfold exV
  dsimp only [Ex.kind, Ex.op, Ex.lit, Ex.table, Ex.name, Ex.neg, Ex.A, Ex.c, Ex.args]
  by_cases h8 : k = 8
  · subst h8
    refine rop_8 o lk ln lf ls tn nm ng xa xs.length xc w fun a W hS hW => ?_
    subst hW
    refine rop_tail 8 o lk ln lf ls tn nm ng xa xs.length xc w ariOps (w.heap.size + 2) 3 rfl _ ?_ a _ hS (((below1 w _).alloc (below1 w _).size _).alloc (by simp <;> omega) _) ?_ (lit_strs _ ariOps _ (by simp) (by decide))
    · show ariOps.any (sameN · o) = _
      simp
    · rw [heap_alloc_old _ _ (by simp <;> omega), heap_alloc_old _ _ (by simp)]; exact heap_alloc_new w _
  · refine rop_o k o lk ln lf ls tn nm ng xa xs.length xc w h8 fun a W hS hW => ?_
    subst hW
    refine rop_tail k o lk ln lf ls tn nm ng xa xs.length xc w cmpOps (w.heap.size + 1) 6 rfl _ ?_ a _ hS ((below1 w _).alloc (below1 w _).size _) ?_ (lit_strs _ cmpOps _ (by simp) (by decide))
    · unfold opOk
      by_cases h7 : k = 7
      · rw [if_pos h7]; simp [h7]
      · rw [if_neg h7, if_neg h8]; simp [h7, h8]
    · rw [heap_alloc_old _ _ (by simp)]; exact heap_alloc_new w _
end Go.Proofs.YthdmfaepjemopaaGreatDoor
