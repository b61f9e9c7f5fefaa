/- The walk of choose, from the orders on. The walk of choose, from the star on. The walks of folds, of slices.ContainsFunc over expressions. -/
import Derived.Test.YthdmfaepjemopaaGreatDoorQAS
import Derived.Deep.RegionLaw
import Derived.Shelf.GgClosure.Gives
namespace Go.Proofs.YthdmfaepjemopaaGreatDoor
open Go.RowKit

def ordL (p : Ex × Bool) : List Value := exL p.1 ++ [.bool p.2]
def ordR (rows : List Row) (gr : Bool) (gl : List Int) (p : Ex × Bool) : Except Int (Int × Bool) := if p.1.kind = 2 then (match colR rows p.1 with
  | .error e => .error e
  | .ok x => if gr = false ∨ gl.contains x.pos = true then .ok (x.pos, p.2) else .error 132) else .error 7
set_option maxRecDepth 100000 in
theorem field_at (p : Nd) (v : Vl) (A : Option Addr) (q c : Nat) (W : World) : (Instr.field 54 (ndV p v A q c) 3).run Tryz.prog W = .ok (.int .i64 p.pos) W := by
  rfl
theorem own_slice {w : World} {base e K n : Nat} {v : Value} {xs : List Value} (h : w.ownsRow base e K v n xs) : ∃ A c, v = .slice A n c := by
  rcases h.2 with ⟨e1, h0⟩ | ⟨g, cap, cur, e1, _⟩
  · exact ⟨none, 0, by rw [e1, h0]⟩
  · exact ⟨_, _, e1⟩
theorem sort_lens (os : List (Int × Bool)) : ∀ x ∈ os.map sortL, x.length = 2 := by
  intro x hx
  obtain ⟨p, _, rfl⟩ := List.mem_map.1 hx
  rfl
theorem GS.fin {w : World} {sr xr qr cr : Array Value} {F : (Nat → Prop) → World → Prop} (hF : Stay F) {e K : Nat} {v : Value} {n : Nat} {xs : List Value} {W : World} (h : GS w sr xr qr cr F e K v n xs W) (v0 v1 v2 v3 v4 v5 v6 v7 v8 : Value) :
    Below w.heap.size w (((((((((W.setCell ⟨w.heap.size + 2, 0, none⟩ v0).setCell ⟨w.heap.size + 2, 1, none⟩ v1).setCell ⟨w.heap.size + 2, 2, none⟩ v2).setCell ⟨w.heap.size + 2, 3, none⟩ v3).setCell ⟨w.heap.size + 2, 4, none⟩ v4).setCell ⟨w.heap.size + 2, 5, none⟩ v5).setCell ⟨w.heap.size + 2, 6, none⟩ v6).setCell ⟨w.heap.size + 2, 7, none⟩ v7).setCell ⟨w.heap.size + 2, 8, none⟩ v8) ∧
    (((((((((W.setCell ⟨w.heap.size + 2, 0, none⟩ v0).setCell ⟨w.heap.size + 2, 1, none⟩ v1).setCell ⟨w.heap.size + 2, 2, none⟩ v2).setCell ⟨w.heap.size + 2, 3, none⟩ v3).setCell ⟨w.heap.size + 2, 4, none⟩ v4).setCell ⟨w.heap.size + 2, 5, none⟩ v5).setCell ⟨w.heap.size + 2, 6, none⟩ v6).setCell ⟨w.heap.size + 2, 7, none⟩ v7).setCell ⟨w.heap.size + 2, 8, none⟩ v8).ownsRow (w.heap.size + 5) e K v n xs ∧
    F (okG w v) (((((((((W.setCell ⟨w.heap.size + 2, 0, none⟩ v0).setCell ⟨w.heap.size + 2, 1, none⟩ v1).setCell ⟨w.heap.size + 2, 2, none⟩ v2).setCell ⟨w.heap.size + 2, 3, none⟩ v3).setCell ⟨w.heap.size + 2, 4, none⟩ v4).setCell ⟨w.heap.size + 2, 5, none⟩ v5).setCell ⟨w.heap.size + 2, 6, none⟩ v6).setCell ⟨w.heap.size + 2, 7, none⟩ v7).setCell ⟨w.heap.size + 2, 8, none⟩ v8) := by
  have key : ∀ (V : World) (i : Nat) (u : Value), (Below w.heap.size w V ∧ V.ownsRow (w.heap.size + 5) e K v n xs ∧ F (okG w v) V) → (Below w.heap.size w (V.setCell ⟨w.heap.size + 2, i, none⟩ u) ∧ (V.setCell ⟨w.heap.size + 2, i, none⟩ u).ownsRow (w.heap.size + 5) e K v n xs ∧ F (okG w v) (V.setCell ⟨w.heap.size + 2, i, none⟩ u)) := fun V i u ⟨h1, h2, h3⟩ =>
    ⟨h1.setCell (p := ⟨w.heap.size + 2, i, none⟩) (Nat.le_add_right _ 2) _, own_far h2 (by omega) u, set_stay hF h3 (by omega)⟩
  exact key _ 8 v8 (key _ 7 v7 (key _ 6 v6 (key _ 5 v5 (key _ 4 v4 (key _ 3 v3 (key _ 2 v2 (key _ 1 v1 (key W 0 v0 ⟨h.cm.below, h.own, h.hold⟩))))))))
theorem info57 : (Tryz.prog.info? 57).map (fun i => (i.zero, i.size, i.bytes)) = some (some (.agg #[.int .i64 0, .bool false]), 2, 16) := by kernel_rfl
theorem box_at {v x : World} {cs : Array Value} {ty : TypeId} {fr : Nat × Nat} {i : Nat} {u : Value} (hB : Below (v.alloc (.cells cs ty fr)).heap.size (v.alloc (.cells cs ty fr)) x) (hu : cs[i]? = some u) : x.cell? ⟨v.heap.size, i, none⟩ = some u :=
  (cell_of_row _ _ _ _ _ _ ((hB.block _ (by simp)).trans (heap_alloc_new v _))).trans hu
theorem row9 {W : World} {b : Nat} {v0 v1 v2 v3 v4 v5 v6 v7 v8 : Value} {ty : TypeId} {fr : Nat × Nat} (h : W.heap[b]? = some (.cells #[v0, v1, v2, v3, v4, v5, v6, v7, v8] ty fr)) : W.cell? ⟨b, 0, none⟩ = some v0 ∧ W.cell? ⟨b, 1, none⟩ = some v1 ∧ W.cell? ⟨b, 2, none⟩ = some v2 ∧ W.cell? ⟨b, 3, none⟩ = some v3 ∧ W.cell? ⟨b, 4, none⟩ = some v4 ∧ W.cell? ⟨b, 5, none⟩ = some v5 ∧ W.cell? ⟨b, 6, none⟩ = some v6 ∧ W.cell? ⟨b, 7, none⟩ = some v7 ∧ W.cell? ⟨b, 8, none⟩ = some v8 :=
  ⟨cell_of_row _ _ 0 _ _ _ h, cell_of_row _ _ 1 _ _ _ h, cell_of_row _ _ 2 _ _ _ h, cell_of_row _ _ 3 _ _ _ h, cell_of_row _ _ 4 _ _ _ h, cell_of_row _ _ 5 _ _ _ h, cell_of_row _ _ 6 _ _ _ h, cell_of_row _ _ 7 _ _ _ h, cell_of_row _ _ 8 _ _ _ h⟩
theorem free9 {W : World} {b : Nat} {cs : Array Value} {ty : TypeId} (h : W.heap[b]? = some (.cells cs ty)) : W.frozen? ⟨b, 0, none⟩ = false ∧ W.frozen? ⟨b, 1, none⟩ = false ∧ W.frozen? ⟨b, 2, none⟩ = false ∧ W.frozen? ⟨b, 3, none⟩ = false ∧ W.frozen? ⟨b, 4, none⟩ = false ∧ W.frozen? ⟨b, 5, none⟩ = false ∧ W.frozen? ⟨b, 6, none⟩ = false ∧ W.frozen? ⟨b, 7, none⟩ = false ∧ W.frozen? ⟨b, 8, none⟩ = false :=
  ⟨frozen_of_row _ _ 0 _ _ h, frozen_of_row _ _ 1 _ _ h, frozen_of_row _ _ 2 _ _ h, frozen_of_row _ _ 3 _ _ h, frozen_of_row _ _ 4 _ _ h, frozen_of_row _ _ 5 _ _ h, frozen_of_row _ _ 6 _ _ h, frozen_of_row _ _ 7 _ _ h, frozen_of_row _ _ 8 _ _ h⟩
theorem ord_at {w : World} {A : Option Addr} {l : List (Ex × Bool)} (h : CellsAt w 11 A (l.map ordL)) {k : Nat} {y : Ex × Bool} (hk : l[k]? = some y) : ∃ b off, A = some ⟨b, off, none⟩ ∧ b < w.heap.size ∧ ∀ (i : Nat) (v : Value), (ordL y)[i]? = some v → w.cell? ⟨b, off + k * 11 + i, none⟩ = some v := by
  have hk2 : (l.map ordL)[k]? = some (ordL y) := by rw [List.getElem?_map, hk]; rfl
  rcases h.2 with h0 | ⟨b, off, h1, h2, h3⟩
  · rw [h0] at hk2; cases hk2
  · exact ⟨b, off, h1, h2, (h3 k _ hk2).2⟩
set_option maxRecDepth 100000 in
set_option maxHeartbeats 16000000 in
theorem seg4 (n : Nat) (sa ta ba : Option Addr) (rows : List Row) (tA : Option Addr) (tl : List Int) (bA wA : Option Addr) (wvs : List (List Value)) (wh : List Nd) (gA : Option Addr) (gl : List Int) (iA : Option Addr) (ivs : List (List Value)) (il : List Nd) (w : World) (sr : Array Value) (xr0 xr1 xr2 xr3 xr4 xr5 xr6 xr7 xr8 xr9 xr11 : Value) (oA : Option Addr) (q oc : Nat) (ol : List (Ex × Bool)) (tc bc wc gc ic c1 c2 c3 : Nat) (wd : Int) (gr fo : Bool) (lim : Int) (R : Except Int Qy)
    (hq : q = ol.length) (hq9 : q ≤ 12) (hol : CellsAt w 11 oA (ol.map ordL)) (hR : RowsOk w rows) (hm : rows.length ≤ 1000)
    (hRR : R = match eachR (ordR rows gr gl) ol with | .error e => .error e | .ok os => .ok ⟨tl, rows.map Row.beg, wd, wh, gl, gr, il, os, lim⟩)
    (a : Act) (W : World) (hS : Slots w a)
    (hG : GS w sr #[xr0, xr1, xr2, xr3, xr4, xr5, xr6, xr7, xr8, xr9, .slice oA q oc, xr11] #[.slice tA tl.length tc, .slice bA rows.length bc, .int .i64 wd, .slice wA wvs.length wc, .slice gA gl.length gc, .bool gr, .slice iA ivs.length ic, .slice none 0 0, .int .i64 lim] #[.slice sa rows.length c1, .slice ta rows.length c2, .slice ba rows.length c3, .bool false, .bool fo] (Fq n sa ta ba rows tA tl bA wA wvs wvs wh gA gl iA ivs ivs il) 57 2 (.slice none 0 0) 0 [] W) :
    (chC 12).wp Tryz.prog (bodyPost Tryz.prog Tryz.f22 (ChooseO n w R)) a W := by
  have HG := Lib.hid hG
  have xb10 := cell_of_row _ _ 10 _ _ _ hG.cm.xb
  have HOL := Lib.hid hol
  have HQ := Lib.hid hq
  have HRO := Lib.hid hR
  have HRN := Lib.hid (show ∀ (j : Nat) (y : Ex × Bool) (os : List (Int × Bool)), eachR (ordR rows gr gl) (ol.take j) = .ok os → ol[j]? = some y → ∀ er, ordR rows gr gl y = .error er → R = .error er from fun j y os h1 h2 er h3 => by rw [hRR, each_fail h2 h1 h3])
  have HRY := Lib.hid (show ∀ os, eachR (ordR rows gr gl) ol = .ok os → R = .ok ⟨tl, rows.map Row.beg, wd, wh, gl, gr, il, os, lim⟩ from fun os h => by rw [hRR, h])
  have HC7N := fun w => check_no 7 w
  have HC7Y := fun w => check_yes 7 w
  have HC2N := fun w => check_no 132 w
  have HC2Y := fun w => check_yes 132 w
  clear hG hol hq hR hRR
  obtain ⟨u, hu, hug⟩ := open288 hS.size
  have p2 := hS.s2; have p3 := hS.s3; have p4 := hS.s4; have p5 := hS.s5; have p6 := hS.s6
  have hdf := hS.df
  rw [hug _ (by omega)] at p2 p3 p4 p5 p6
  obtain ⟨tm, df⟩ := a
  dsimp only at hu hdf
  subst hu hdf
  clear hS hug
  rw [p2, p3, p4, p5, p6]
  clear p2 p3 p4 p5 p6
  conv => arg 2; whnf
  go_wp2_with fail
  clear xb10
  refine wp_loop (fun a' wr => Slots w a' ∧ a'.tmps.getD 251 undef = .slice oA q oc ∧ a'.tmps.getD 252 undef = .int .i64 q ∧ ∃ (j : Nat) (v : Value) (os : List (Int × Bool)), j ≤ q ∧ a'.tmps.getD 253 undef = .int .i64 j ∧ os.length = j ∧ Hid (eachR (ordR rows gr gl) (ol.take j) = .ok os) ∧ Hid (GS w sr #[xr0, xr1, xr2, xr3, xr4, xr5, xr6, xr7, xr8, xr9, .slice oA q oc, xr11] #[.slice tA tl.length tc, .slice bA rows.length bc, .int .i64 wd, .slice wA wvs.length wc, .slice gA gl.length gc, .bool gr, .slice iA ivs.length ic, v, .int .i64 lim] #[.slice sa rows.length c1, .slice ta rows.length c2, .slice ba rows.length c3, .bool false, .bool fo] (Fq n sa ta ba rows tA tl bA wA wvs wvs wh gA gl iA ivs ivs il) 57 2 v j (os.map sortL).flatten wr)) (fun a' _ => q - (intOf (a'.tmps.getD 253 undef)).toNat) ?start ?round
  case start => exact ⟨⟨rfl, rfl, rfl, rfl, rfl, rfl, rfl⟩, rfl, rfl, 0, .slice none 0 0, [], Nat.zero_le _, rfl, rfl, Lib.hid rfl, HG⟩
  case round =>
    clear HG
    rintro a wr ⟨hS, h251, h252, j, v, os, hj, h253, hos, HE, HG⟩
    obtain ⟨u, hu, hug⟩ := open288 hS.size
    have p2 := hS.s2; have p3 := hS.s3; have p4 := hS.s4; have p5 := hS.s5; have p6 := hS.s6
    have hdf := hS.df
    rw [hug _ (by omega)] at p2 p3 p4 p5 p6 h251 h252 h253
    obtain ⟨tm, df⟩ := a
    dsimp only at hu hdf
    subst hu hdf
    clear hS hug
    rw [p2, p3, p4, p5, p6, h251, h252, h253]
    clear p2 p3 p4 p5 p6 h251 h252 h253
    by_cases hjq : j < q
    · have hjn : ((j : Int) < (q : Int)) = True := eq_true (by omega)
      obtain ⟨⟨x, d⟩, hy⟩ : ∃ y, ol[j]? = some y := ⟨_, List.getElem?_eq_getElem (by have := HQ.out; omega)⟩
      obtain ⟨ob, oo, rfl, hob, hyc⟩ := ord_at HOL.out hy
      have HYJ := Lib.hid hy
      have hlt := HG.out.cm.lt
      have t0 : wr.cell? ⟨ob, oo + j * 11, none⟩ = some (.int .i64 x.kind) := cell_kept (hyc 0 _ rfl) HG.out.cm.below
      have t1 := cell_kept (hyc 1 _ rfl) HG.out.cm.below
      have t2 := cell_kept (hyc 2 _ rfl) HG.out.cm.below
      have t3 := cell_kept (hyc 3 _ rfl) HG.out.cm.below
      have t4 := cell_kept (hyc 4 _ rfl) HG.out.cm.below
      have t5 := cell_kept (hyc 5 _ rfl) HG.out.cm.below
      have t6 := cell_kept (hyc 6 _ rfl) HG.out.cm.below
      have t7 := cell_kept (hyc 7 _ rfl) HG.out.cm.below
      have t8 := cell_kept (hyc 8 _ rfl) HG.out.cm.below
      have t9 := cell_kept (hyc 9 _ rfl) HG.out.cm.below
      have t10 := cell_kept (hyc 10 _ rfl) HG.out.cm.below
      clear hyc hy hob
      by_cases hk : x.kind = 2
      · have hkk : (x.kind == 2) = true := beq_iff_eq.2 hk
        have HCOL := Lib.hid (show ∀ O, Calls Tryz.prog 36 #[.agg #[.slice sa rows.length c1, .slice ta rows.length c2, .slice ba rows.length c3, .bool false, .bool fo], exV x] (wr.alloc O) (ExprO (n + 1) (wr.alloc O) (colR rows x)) from fun O => column_e n ⟨sa, c1, ta, c2, ba, c3, rows⟩ false fo x (wr.alloc O) ((sc_of HG.out.hold HG.out.cm.below HRO.out c1 c2 c3).keep (below1 wr O)) hm)
        obtain ⟨s0, s1, s2, s3, s4⟩ := row5 HG.out.cm.sc
        have hzs := heap_lt HG.out.cm.sc
        have hfa := field_at
        have sf := store_float
        cases hc : colR rows x with
        | error er =>
          obtain rfl : R = .error er := HRN.out j (x, d) os HE.out HYJ.out er (by unfold ordR; rw [if_pos hk]; dsimp only; rw [hc])
          rw [hc] at HCOL
          clear hc hk
          go_wp2_with (first
            | (go_at_call 36; (with_reducible refine (HCOL.out _).mono ?_); rintro e w5 ⟨hB5, rfl⟩)
            | (go_at_call 24; (with_reducible refine (HC7Y _).mono ?_); rintro e w' ⟨rfl, rfl⟩)
            | fail)
          exact ⟨rfl, HG.out.cm.below.trans (((below1 wr _).trans (hB5.mono (below1 wr _).size)).mono HG.out.cm.below.size), rfl⟩
        | ok p =>
          rw [hc] at HCOL
          cases gr with
          | false =>
            have HR := Lib.hid (each_snoc HYJ.out HE.out (show ordR rows false gl (x, d) = .ok (p.pos, d) by unfold ordR; rw [if_pos hk]; dsimp only; rw [hc]; dsimp only; rw [if_pos (Or.inl rfl)]))
            clear hc hk
            go_wp2_with (first
              | (go_at_call 36; (with_reducible refine (HCOL.out _).mono ?_); rintro e w5 ⟨hB5, A5, c5, q5, rfl, _⟩
                 have HG5 := Lib.hid ((HG.out.keep (fq_stay ..) (below1 wr _)).keep (fq_stay ..) hB5)
                 obtain ⟨q0, q1, q2, q3, q4, q5', q6, q7, q8⟩ := row9 HG5.out.cm.q
                 have x10 := box_at (i := 10) hB5 rfl
                 have hwz : wr.heap.size < w5.heap.size := Nat.lt_of_lt_of_le (by simp) hB5.size
                 clear hB5)
              | (go_at_call 24; first
                 | (with_reducible refine (HC7Y _).mono ?_; rintro e w' ⟨rfl, rfl⟩)
                 | (with_reducible refine (HC2Y _).mono ?_; rintro e w' ⟨rfl, rfl⟩))
              | (at_builtin; refine list_one 46 57 2 16 (.agg #[.int .i64 0, .bool false]) Tryz.underlying46 info57 rfl (by omega) (by omega) _ rfl _ _ rfl (w.heap.size + 5) v j (os.map sortL).flatten rfl (HG5.out.keep (fq_stay ..) (below1 w5 _)).own _ 1 (sortL (p.pos, d)) rfl rfl rfl (heap_alloc_new w5 _) ?c3 ?c4 ?_)
              | fail)
            case c3 => omega
            case c4 => have := HG5.out.cm.lt; simp; omega
            intro v8 w8 hown hgr hv8
            obtain ⟨A8, c8, rfl⟩ := own_slice hown
            have HM := Lib.hid ((HG5.out.keep (fq_stay ..) (below1 w5 _)).app (fq_stay ..) hown hgr (by rw [World.size_alloc]; exact hv8))
            have HM2 := Lib.hid (HM.out.setQ (fq_stay ..) 7 (.slice A8 (j + 1) c8))
            have q7 := cell_of_row _ _ 7 _ _ _ HM.out.cm.q
            have y7 := frozen_of_row _ _ 7 _ _ HM.out.cm.q
            have hz8 := heap_lt HM.out.cm.q
            clear hown hgr hv8
            go_wp2_with fail
            refine ⟨⟨⟨rfl, rfl, rfl, rfl, rfl, rfl, rfl⟩, rfl, rfl, j + 1, .slice A8 (j + 1) c8, os ++ [(p.pos, d)], by omega, by go_num, by rw [List.length_append, hos]; rfl, HR, Lib.hid ?_⟩, ?_⟩
            · have := HM2.out
              rw [List.map_append, List.flatten_append]
              simpa using this
            · show q - (intOf (.int .i64 _)).toNat < q - (intOf (.int .i64 _)).toNat
              simp [intOf] <;> omega
          | true =>
            have HAS := fun W (h : IntsAt W gA gl) => has_ints gA gc gl p.pos W h
            cases hh : gl.contains p.pos with
            | false =>
              obtain rfl : R = .error 132 := HRN.out j (x, d) os HE.out HYJ.out 132 (by unfold ordR; rw [if_pos hk]; dsimp only; rw [hc]; dsimp only; rw [if_neg (by rw [hh]; decide)])
              rw [hh] at HAS
              clear hc hk hh
              go_wp2_with (first
                | (go_at_call 36; (with_reducible refine (HCOL.out _).mono ?_); rintro e w5 ⟨hB5, A5, c5, q5, rfl, _⟩
                   have HG5 := Lib.hid ((HG.out.keep (fq_stay ..) (below1 wr _)).keep (fq_stay ..) hB5)
                   obtain ⟨q0, q1, q2, q3, q4, q5', q6, q7, q8⟩ := row9 HG5.out.cm.q
                   have x10 := box_at (i := 10) hB5 rfl
                   have hwz : wr.heap.size < w5.heap.size := Nat.lt_of_lt_of_le (by simp) hB5.size
                   clear hB5)
                | (go_at_call 24; first
                   | (with_reducible refine (HC7Y _).mono ?_; rintro e w' ⟨rfl, rfl⟩)
                   | (with_reducible refine (HC2N _).mono ?_; rintro e w' ⟨rfl, rfl⟩))
                | (go_at_call 39; (with_reducible refine (HAS _ HG5.out.hold.gc.ints).mono ?_); rintro e w6 ⟨rfl, hB6⟩
                   have HG6 := Lib.hid (HG5.out.keep (fq_stay ..) hB6)
                   clear hB6)
                | fail)
              exact ⟨rfl, HG6.out.cm.below, rfl⟩
            | true =>
              have HR := Lib.hid (each_snoc HYJ.out HE.out (show ordR rows true gl (x, d) = .ok (p.pos, d) by unfold ordR; rw [if_pos hk]; dsimp only; rw [hc]; dsimp only; rw [if_pos (Or.inr hh)]))
              rw [hh] at HAS
              clear hc hk hh
              go_wp2_with (first
                | (go_at_call 36; (with_reducible refine (HCOL.out _).mono ?_); rintro e w5 ⟨hB5, A5, c5, q5, rfl, _⟩
                   have HG5 := Lib.hid ((HG.out.keep (fq_stay ..) (below1 wr _)).keep (fq_stay ..) hB5)
                   obtain ⟨q0, q1, q2, q3, q4, q5', q6, q7, q8⟩ := row9 HG5.out.cm.q
                   have x10 := box_at (i := 10) hB5 rfl
                   have hwz : wr.heap.size < w5.heap.size := Nat.lt_of_lt_of_le (by simp) hB5.size
                   clear hB5)
                | (go_at_call 24; first
                   | (with_reducible refine (HC7Y _).mono ?_; rintro e w' ⟨rfl, rfl⟩)
                   | (with_reducible refine (HC2Y _).mono ?_; rintro e w' ⟨rfl, rfl⟩))
                | (go_at_call 39; (with_reducible refine (HAS _ HG5.out.hold.gc.ints).mono ?_); rintro e w6 ⟨rfl, hB6⟩
                   have HG6 := Lib.hid (HG5.out.keep (fq_stay ..) hB6)
                   have z10 := cell_kept x10 hB6
                   have z7 := cell_of_row _ _ 7 _ _ _ HG6.out.cm.q
                   have hwz6 : wr.heap.size < w6.heap.size := Nat.lt_of_lt_of_le hwz hB6.size
                   clear hB6)
                | (at_builtin; refine list_one 46 57 2 16 (.agg #[.int .i64 0, .bool false]) Tryz.underlying46 info57 rfl (by omega) (by omega) _ rfl _ _ rfl (w.heap.size + 5) v j (os.map sortL).flatten rfl (HG6.out.keep (fq_stay ..) (below1 w6 _)).own _ 1 (sortL (p.pos, d)) rfl rfl rfl (heap_alloc_new w6 _) ?c3 ?c4 ?_)
                | fail)
              case c3 => omega
              case c4 => have := HG6.out.cm.lt; simp; omega
              intro v8 w8 hown hgr hv8
              obtain ⟨A8, c8, rfl⟩ := own_slice hown
              have HM := Lib.hid ((HG6.out.keep (fq_stay ..) (below1 w6 _)).app (fq_stay ..) hown hgr (by rw [World.size_alloc]; exact hv8))
              have HM2 := Lib.hid (HM.out.setQ (fq_stay ..) 7 (.slice A8 (j + 1) c8))
              have q7 := cell_of_row _ _ 7 _ _ _ HM.out.cm.q
              have y7 := frozen_of_row _ _ 7 _ _ HM.out.cm.q
              have hz8 := heap_lt HM.out.cm.q
              clear hown hgr hv8
              go_wp2_with fail
              refine ⟨⟨⟨rfl, rfl, rfl, rfl, rfl, rfl, rfl⟩, rfl, rfl, j + 1, .slice A8 (j + 1) c8, os ++ [(p.pos, d)], by omega, by go_num, by rw [List.length_append, hos]; rfl, HR, Lib.hid ?_⟩, ?_⟩
              · have := HM2.out
                rw [List.map_append, List.flatten_append]
                simpa using this
              · show q - (intOf (.int .i64 _)).toNat < q - (intOf (.int .i64 _)).toNat
                simp [intOf] <;> omega
      · obtain rfl : R = .error 7 := HRN.out j (x, d) os HE.out HYJ.out 7 (by unfold ordR; exact if_neg hk)
        have hkk : (x.kind == 2) = false := beq_eq_false_iff_ne.2 hk
        clear hk
        have sf := store_float
        go_wp2_with (first
          | (go_at_call 24; (with_reducible refine (HC7N _).mono ?_); rintro e w' ⟨rfl, rfl⟩)
          | fail)
        exact ⟨rfl, HG.out.cm.below.trans ((below1 _ _).mono HG.out.cm.below.size), rfl⟩
    · obtain rfl : j = q := by omega
      have hjn : ((j : Int) < (j : Int)) = False := eq_false (by omega)
      go_upto_region 50 with (fail)
      have HT := HE.out
      rw [List.take_of_length_le (by have := HQ.out; omega)] at HT
      obtain rfl : R = .ok ⟨tl, rows.map Row.beg, wd, wh, gl, gr, il, os, lim⟩ := HRY.out os HT
      clear HT
      obtain ⟨A9, c9, rfl⟩ := own_slice HG.out.own
      obtain ⟨q0, q1, q2, q3, q4, q5, q6, q7, q8⟩ := row9 HG.out.cm.q
      obtain ⟨b0, b1, b2, b3, b4, b5, b6, b7, b8⟩ := row9 (show wr.heap[w.heap.size + 2]? = some (.cells #[.slice none 0 0, .slice none 0 0, .int .i64 0, .slice none 0 0, .slice none 0 0, .bool false, .slice none 0 0, .slice none 0 0, .int .i64 0] 48) from HG.out.cm.ans)
      obtain ⟨f0, f1, f2, f3, f4, f5, f6, f7, f8⟩ := free9 HG.out.cm.ans
      have hlz := heap_lt HG.out.cm.ans
      go_wp2_with fail
      have HD := HG.out.fin (fq_stay ..) (.slice tA tl.length tc) (.slice bA rows.length bc) (.int .i64 wd) (.slice wA wvs.length wc) (.slice gA gl.length gc) (.bool gr) (.slice iA ivs.length ic) (.slice A9 j c9) (.int .i64 lim)
      refine bodyPost_ret (v := qyV ⟨tl, rows.map Row.beg, wd, wh, gl, gr, il, os, lim⟩ tA tc bA bc wA wvs.length wc gA gc iA ivs.length ic A9 c9) (by simp [results, Tryz.results22, go_sem, b0, b1, b2, b3, b4, b5, b6, b7, b8, hos]) rfl ⟨HD.1, _, rfl, tA, tc, bA, bc, wA, wc, wvs, gA, gc, iA, ic, ivs, A9, c9, rfl, ?_⟩
      obtain ⟨hB, hown, hF⟩ := HD
      obtain ⟨A', c', e', hC⟩ := own_setl hown (sort_lens os) (by rw [List.length_map]; exact hos.symm) (fun b => w.heap.size ≤ b) (fun b hb _ => by omega)
      cases e'
      have hF := (fq_stay ..).mono hF (ok' := fun b => w.heap.size ≤ b) (fun b hb _ => by have := hb.1; omega)
      refine ⟨hF.qt, ?_, hF.wc, hF.wn, hF.gc, hF.ic, hF.nn, hC⟩
      have := hF.qb
      show Setl _ _ 1 bA ((rows.map Row.beg).map intL)
      rw [List.map_map]
      exact this
end Go.Proofs.YthdmfaepjemopaaGreatDoor
namespace Go.Proofs.YthdmfaepjemopaaGreatDoor
open Go.RowKit

theorem setl_at {W : World} {K : Nat} {A : Option Addr} {ls : List (List Value)} (h : CellsAt W K A ls) {j : Nat} {x : List Value} (hx : ls[j]? = some x) : ∃ b off, A = some ⟨b, off, none⟩ ∧ b < W.heap.size ∧ ∀ (i : Nat) (u : Value), x[i]? = some u → W.cell? ⟨b, off + j * K + i, none⟩ = some u := by
  rcases h.2 with h0 | ⟨b, off, h1, h2, h3⟩
  · rw [h0] at hx; cases hx
  · exact ⟨b, off, h1, h2, (h3 j x hx).2⟩
def colN (beg : Int) (k : Nat) (c : Col) : Nd := .mk 2 ⟨#[]⟩ zeroV (beg + k) false c.ty []
def starR (rows : List Row) : List Nd := rows.flatMap fun r => r.cols.mapIdx (colN r.beg)
theorem star_snoc {beg : Int} {l : List Col} {k : Nat} {c : Col} (h : l[k]? = some c) : (l.take (k + 1)).mapIdx (colN beg) = (l.take k).mapIdx (colN beg) ++ [colN beg k c] := by
  have hl := (List.getElem?_eq_some_iff.1 h).1
  rw [List.take_add_one, h, Option.toList_some, List.mapIdx_append]
  congr 1
  rw [List.length_take, Nat.min_eq_left (by omega)]
  simp
theorem star_more {rows : List Row} {j : Nat} {r : Row} (h : rows[j]? = some r) : starR (rows.take (j + 1)) = starR (rows.take j) ++ r.cols.mapIdx (colN r.beg) := by
  unfold starR
  rw [List.take_add_one, h, Option.toList_some, List.flatMap_append]
  simp
def ndZ (p : Nd) : List Value := ndL p zeroV none 0 0
theorem GS.items {n : Nat} {sa ta ba : Option Addr} {rows : List Row} {tA : Option Addr} {tl : List Int} {bA wA : Option Addr} {wvs : List (List Value)} {wh : List Nd} {gA : Option Addr} {gl : List Int} {ivs : List (List Value)} {il : List Nd} {w : World} {sr xr qr cr : Array Value} {v : Value} {W : World} (h : GS w sr xr qr cr (Fq n sa ta ba rows tA tl bA wA wvs wvs wh gA gl none [] ivs il) 54 10 v ivs.length ivs.flatten W) (hl : ∀ x ∈ ivs, x.length = 10) : ∃ iA ic, v = .slice iA ivs.length ic ∧ GS w sr xr qr cr (Fq n sa ta ba rows tA tl bA wA wvs wvs wh gA gl iA ivs ivs il) 57 2 (.slice none 0 0) 0 [] W := by
  obtain ⟨iA, ic, rfl, hS⟩ := own_setl h.own hl rfl (okG w (.slice none 0 0)) (fun b hb _ => ⟨hb, fun e => by cases e⟩)
  have hF := (fq_stay ..).mono h.hold (ok' := okG w (.slice none 0 0)) fun b hb _ => ⟨hb.1, fun e => by cases e⟩
  exact ⟨iA, ic, rfl, h.cm, World.ownsRow_nil _ _ _ _, hF.strs, hF.tabs, hF.begs, hF.qt, hF.qb, hF.wc, hF.wn, hF.gc, hS, hF.nn⟩
theorem GS.nd {n : Nat} {sa ta ba : Option Addr} {rows : List Row} {tA : Option Addr} {tl : List Int} {bA wA : Option Addr} {wvs : List (List Value)} {wh : List Nd} {gA : Option Addr} {gl : List Int} {us : List (List Value)} {il : List Nd} {w : World} {sr xr qr cr : Array Value} {v : Value} {k : Nat} {xs : List Value} {W : World} (h : GS w sr xr qr cr (Fq n sa ta ba rows tA tl bA wA wvs wvs wh gA gl none [] us il) 54 10 v k xs W) {x : List Value} {p : Nd} (hx : NdAt clP (okG w v) W n x p) : GS w sr xr qr cr (Fq n sa ta ba rows tA tl bA wA wvs wvs wh gA gl none [] (us ++ [x]) (il ++ [p])) 54 10 v k xs W :=
  ⟨h.cm, h.own, h.hold.strs, h.hold.tabs, h.hold.begs, h.hold.qt, h.hold.qb, h.hold.wc, h.hold.wn, h.hold.gc, h.hold.ic, h.hold.nn.app ⟨rfl, fun i y q hy hq => by
    have hi : i = 0 := by have := (List.getElem?_eq_some_iff.1 hy).1; simpa using this
    subst hi
    cases hy
    cases hq
    exact hx⟩⟩
theorem leaf_nd {ok : Nat → Prop} {W : World} {n : Nat} (hn : 0 < n) (b : Int) (k : Nat) (c : Col) : NdAt clP ok W n (ndZ (colN b k c)) (colN b k c) := by
  cases n with
  | zero => omega
  | succ n => exact ⟨none, 0, [], by rw [show clP (colN b k c).lit = zeroV from clP_zero]; rfl, CellsAt.nil_at _ _ _, fun h => absurd rfl h, rfl, fun i x q hx => by cases hx⟩
set_option maxRecDepth 100000 in
set_option maxHeartbeats 16000000 in
theorem seg3 (n : Nat) (sa ta ba : Option Addr) (rows : List Row) (tA : Option Addr) (tl : List Int) (bA wA : Option Addr) (wvs : List (List Value)) (wh : List Nd) (gA : Option Addr) (gl : List Int) (ivs : List (List Value)) (il : List Nd) (w : World) (sr : Array Value) (xr0 xr1 xr2 xr3 xr4 xr6 xr7 xr8 xr9 xr11 : Value) (star : Bool) (oA : Option Addr) (q oc : Nat) (ol : List (Ex × Bool)) (tc bc wc gc c1 c2 c3 : Nat) (wd : Int) (gr fo : Bool) (lim : Int) (R : Except Int Qy) (v : Value)
    (hn : 0 < n) (hq : q = ol.length) (hq9 : q ≤ 12) (hol : CellsAt w 11 oA (ol.map ordL)) (hR : RowsOk w rows) (hm : rows.length ≤ 4) (hc12 : ∀ r ∈ rows, r.cols.length ≤ 12) (hl : ∀ x ∈ ivs, x.length = 10) (hil : ivs.length ≤ 30)
    (hRR : R = match eachR (ordR rows gr gl) ol with | .error e => .error e | .ok os => .ok ⟨tl, rows.map Row.beg, wd, wh, gl, gr, il ++ (if star then starR rows else []), os, lim⟩)
    (a : Act) (W : World) (hS : Slots w a)
    (hG : GS w sr #[xr0, xr1, xr2, xr3, xr4, .bool star, xr6, xr7, xr8, xr9, .slice oA q oc, xr11] #[.slice tA tl.length tc, .slice bA rows.length bc, .int .i64 wd, .slice wA wvs.length wc, .slice gA gl.length gc, .bool gr, v, .slice none 0 0, .int .i64 lim] #[.slice sa rows.length c1, .slice ta rows.length c2, .slice ba rows.length c3, .bool false, .bool fo] (Fq n sa ta ba rows tA tl bA wA wvs wvs wh gA gl none [] ivs il) 54 10 v ivs.length ivs.flatten W) :
    (chC 11).wp Tryz.prog (bodyPost Tryz.prog Tryz.f22 (ChooseO n w R)) a W := by
  have HG := Lib.hid hG
  have xb5 : W.cell? ⟨w.heap.size + 1, 5, none⟩ = some (.bool star) := cell_of_row _ _ 5 _ _ _ hG.cm.xb
  cases star with
  | false =>
    have hRR2 : R = match eachR (ordR rows gr gl) ol with | .error e => .error e | .ok os => .ok ⟨tl, rows.map Row.beg, wd, wh, gl, gr, il, os, lim⟩ := by
      rw [hRR]
      cases eachR (ordR rows gr gl) ol with
      | error e => rfl
      | ok os => show Except.ok _ = Except.ok _; rw [if_neg (by decide), List.append_nil]
    obtain ⟨iA, ic, rfl, hG2⟩ := hG.items hl
    have HSEG := fun a W hS hG => seg4 n sa ta ba rows tA tl bA wA wvs wh gA gl iA ivs il w sr xr0 xr1 xr2 xr3 xr4 (.bool false) xr6 xr7 xr8 xr9 xr11 oA q oc ol tc bc wc gc ic c1 c2 c3 wd gr fo lim R hq hq9 hol hR (by omega) hRR2 a W hS hG
    have HG2 := Lib.hid hG2
    clear hG hG2 HG hRR hRR2
    obtain ⟨u, hu, hug⟩ := open288 hS.size
    have p2 := hS.s2; have p3 := hS.s3; have p4 := hS.s4; have p5 := hS.s5; have p6 := hS.s6
    have hdf := hS.df
    rw [hug _ (by omega)] at p2 p3 p4 p5 p6
    obtain ⟨tm, df⟩ := a
    dsimp only at hu hdf
    subst hu hdf
    clear hS hug
    rw [p2, p3, p4, p5, p6]
    clear p2 p3 p4 p5 p6
    conv => arg 2; whnf
    refine wp_seq_k fun K hK => ?_
    have HK := Lib.hid (show ∀ a w', (chC 12).wp Tryz.prog (bodyPost Tryz.prog Tryz.f22 (ChooseO n w R)) a w' → K a w' from hK)
    clear hK
    go_wp2_with fail
    refine HK.out _ _ (HSEG _ _ ⟨?_, ?_, ?_, ?_, ?_, ?_, ?_⟩ HG2.out) <;> rfl
  | true =>
    have hRR2 : R = match eachR (ordR rows gr gl) ol with | .error e => .error e | .ok os => .ok ⟨tl, rows.map Row.beg, wd, wh, gl, gr, il ++ starR rows, os, lim⟩ := hRR
    have HSEG := Lib.hid (show ∀ iA ic ivs a W, Slots w a → GS w sr #[xr0, xr1, xr2, xr3, xr4, .bool true, xr6, xr7, xr8, xr9, .slice oA q oc, xr11] #[.slice tA tl.length tc, .slice bA rows.length bc, .int .i64 wd, .slice wA wvs.length wc, .slice gA gl.length gc, .bool gr, .slice iA ivs.length ic, .slice none 0 0, .int .i64 lim] #[.slice sa rows.length c1, .slice ta rows.length c2, .slice ba rows.length c3, .bool false, .bool fo] (Fq n sa ta ba rows tA tl bA wA wvs wvs wh gA gl iA ivs ivs (il ++ starR rows)) 57 2 (.slice none 0 0) 0 [] W → (chC 12).wp Tryz.prog (bodyPost Tryz.prog Tryz.f22 (ChooseO n w R)) a W from fun iA ic ivs a W hS hG => seg4 n sa ta ba rows tA tl bA wA wvs wh gA gl iA ivs (il ++ starR rows) w sr xr0 xr1 xr2 xr3 xr4 (.bool true) xr6 xr7 xr8 xr9 xr11 oA q oc ol tc bc wc gc ic c1 c2 c3 wd gr fo lim R hq hq9 hol hR (by omega) hRR2 a W hS hG)
    have HL := Lib.hid hl
    have HRO := Lib.hid hR
    have HC12 := Lib.hid hc12
    obtain ⟨s0, s1, s2, s3, s4⟩ := row5 hG.cm.sc
    obtain ⟨m, hmm⟩ : ∃ m, m = rows.length := ⟨_, rfl⟩
    have HM := Lib.hid hmm
    rw [← hmm] at HG HSEG hm s0 s1 s2
    clear hG hRR hRR2 hl hR hc12 hol hq hmm
    obtain ⟨u, hu, hug⟩ := open288 hS.size
    have p2 := hS.s2; have p3 := hS.s3; have p4 := hS.s4; have p5 := hS.s5; have p6 := hS.s6
    have hdf := hS.df
    rw [hug _ (by omega)] at p2 p3 p4 p5 p6
    obtain ⟨tm, df⟩ := a
    dsimp only at hu hdf
    subst hu hdf
    clear hS hug
    rw [p2, p3, p4, p5, p6]
    clear p2 p3 p4 p5 p6
    conv => arg 2; whnf
    refine wp_seq_k fun K hK => ?_
    have HK := Lib.hid (show ∀ a w', (chC 12).wp Tryz.prog (bodyPost Tryz.prog Tryz.f22 (ChooseO n w R)) a w' → K a w' from hK)
    clear hK
    go_wp2_with fail
    clear xb5 s0 s1 s2 s3 s4
    refine wp_loop (fun a' wr => Slots w a' ∧ a'.tmps.getD 218 undef = .slice ta m c2 ∧ a'.tmps.getD 219 undef = .int .i64 m ∧ ∃ (j : Nat) (v : Value) (us : List (List Value)), j ≤ m ∧ a'.tmps.getD 220 undef = .int .i64 j ∧ us.length ≤ 30 + j * 12 ∧ Hid (∀ x ∈ us, x.length = 10) ∧ Hid (GS w sr #[xr0, xr1, xr2, xr3, xr4, .bool true, xr6, xr7, xr8, xr9, .slice oA q oc, xr11] #[.slice tA tl.length tc, .slice bA m bc, .int .i64 wd, .slice wA wvs.length wc, .slice gA gl.length gc, .bool gr, v, .slice none 0 0, .int .i64 lim] #[.slice sa m c1, .slice ta m c2, .slice ba m c3, .bool false, .bool fo] (Fq n sa ta ba rows tA tl bA wA wvs wvs wh gA gl none [] us (il ++ starR (rows.take j))) 54 10 v us.length us.flatten wr)) (fun a' _ => m - (intOf (a'.tmps.getD 220 undef)).toNat) ?start ?round
    case start =>
      refine ⟨⟨?_, ?_, ?_, ?_, ?_, ?_, ?_⟩, ?_, ?_, 0, v, ivs, Nat.zero_le _, ?_, by omega, HL, ?_⟩
      all_goals first | rfl | skip
      have := HG.out
      exact Lib.hid (by rw [List.take_zero]; show GS w sr _ _ _ (Fq n sa ta ba rows tA tl bA wA wvs wvs wh gA gl none [] ivs (il ++ [])) 54 10 v _ _ W; rw [List.append_nil]; exact this)
    case round =>
      clear HG HL
      rintro a wr ⟨hS, h218, h219, j, v, us, hj, h220, hus, HL, HG⟩
      obtain ⟨u, hu, hug⟩ := open288 hS.size
      have p2 := hS.s2; have p3 := hS.s3; have p4 := hS.s4; have p5 := hS.s5; have p6 := hS.s6
      have hdf := hS.df
      rw [hug _ (by omega)] at p2 p3 p4 p5 p6 h218 h219 h220
      obtain ⟨tm, df⟩ := a
      dsimp only at hu hdf
      subst hu hdf
      clear hS hug
      rw [p2, p3, p4, p5, p6, h218, h219, h220]
      clear p2 p3 p4 p5 p6 h218 h219 h220
      by_cases hjm : j < m
      · have hjn : ((j : Int) < (m : Int)) = True := eq_true (by omega)
        obtain ⟨r, hr⟩ : ∃ r, rows[j]? = some r := ⟨_, List.getElem?_eq_getElem (by have := HM.out; omega)⟩
        have HC12j := HC12.out r (List.mem_of_getElem? hr)
        obtain ⟨⟨hcols, hcn, _, _⟩, hb0, hb1, _⟩ := HRO.out r (List.mem_of_getElem? hr)
        obtain ⟨tb, tf, rfl, htb, htc⟩ := setl_at HG.out.hold.tabs.1 (j := j) (x := tabL r.tab) (by rw [List.getElem?_map, hr]; rfl)
        have HRJ := Lib.hid hr
        have HCO := Lib.hid hcols
        obtain ⟨⟨rn, rca, rcn, rcc, rr1, rr2, rr3⟩, hrt⟩ : ∃ t, t = r.tab := ⟨_, rfl⟩
        rw [← hrt] at htc hcn HCO
        have t0 : wr.cell? ⟨tb, tf + j * 5, none⟩ = some (.string rn) := htc 0 _ rfl
        have t1 : wr.cell? ⟨tb, tf + j * 5 + 1, none⟩ = some (.slice rca rcn rcc) := htc 1 _ rfl
        have t2 : wr.cell? ⟨tb, tf + j * 5 + 2, none⟩ = some (.int .i64 rr1) := htc 2 _ rfl
        have t3 : wr.cell? ⟨tb, tf + j * 5 + 3, none⟩ = some (.int .i64 rr2) := htc 3 _ rfl
        have t4 : wr.cell? ⟨tb, tf + j * 5 + 4, none⟩ = some (.int .i64 rr3) := htc 4 _ rfl
        have hcn2 : rcn = r.cols.length := hcn
        have HCN := Lib.hid hcn2
        have hcn12 : rcn ≤ 12 := by omega
        have HBT := Lib.hid (show 0 ≤ r.beg ∧ r.beg ≤ 100000 from ⟨hb0, hb1⟩)
        have HW1 := fun O => Lib.hid (HG.out.keep (fq_stay ..) (below1 wr O))
        clear htc hr hcols hcn hcn2 hrt htb HC12j hb0 hb1
        go_wp2_with fail
        clear t0 t1 t2 t3 t4
        have HG5 := HW1 (.cells #[.string rn, .slice rca rcn rcc, .int .i64 rr1, .int .i64 rr2, .int .i64 rr3] 65)
        generalize wr.alloc (.cells #[.string rn, .slice rca rcn rcc, .int .i64 rr1, .int .i64 rr2, .int .i64 rr3] 65) = w5 at HG5 ⊢
        clear HW1 HG
        refine wp_loop (fun a' wx => Slots w a' ∧ a'.tmps.getD 218 undef = .slice (some ⟨tb, tf, none⟩) m c2 ∧ a'.tmps.getD 219 undef = .int .i64 m ∧ a'.tmps.getD 220 undef = .int .i64 j ∧ a'.tmps.getD 15 undef = .int .i64 j ∧ a'.tmps.getD 226 undef = .slice rca rcn rcc ∧ a'.tmps.getD 227 undef = .int .i64 rcn ∧ ∃ (k : Nat) (v : Value) (us : List (List Value)), k ≤ rcn ∧ a'.tmps.getD 228 undef = .int .i64 k ∧ us.length ≤ 30 + j * 12 + k ∧ Hid (∀ x ∈ us, x.length = 10) ∧ Hid (GS w sr #[xr0, xr1, xr2, xr3, xr4, .bool true, xr6, xr7, xr8, xr9, .slice oA q oc, xr11] #[.slice tA tl.length tc, .slice bA m bc, .int .i64 wd, .slice wA wvs.length wc, .slice gA gl.length gc, .bool gr, v, .slice none 0 0, .int .i64 lim] #[.slice sa m c1, .slice (some ⟨tb, tf, none⟩) m c2, .slice ba m c3, .bool false, .bool fo] (Fq n sa (some ⟨tb, tf, none⟩) ba rows tA tl bA wA wvs wvs wh gA gl none [] us (il ++ starR (rows.take j) ++ (r.cols.take k).mapIdx (colN r.beg))) 54 10 v us.length us.flatten wx)) (fun a' _ => rcn - (intOf (a'.tmps.getD 228 undef)).toNat) ?start ?round
        case start =>
          refine ⟨⟨?_, ?_, ?_, ?_, ?_, ?_, ?_⟩, ?_, ?_, ?_, ?_, ?_, ?_, 0, v, us, Nat.zero_le _, ?_, by omega, HL, ?_⟩
          all_goals first | rfl | skip
          have := HG5.out
          exact Lib.hid (by rw [List.take_zero, List.mapIdx_nil, List.append_nil]; exact this)
        case round =>
          clear HG5 HL
          rintro a wx ⟨hS, h218, h219, h220, h15, h226, h227, k, v, us, hk, h228, hus2, HL, HG⟩
          obtain ⟨u, hu, hug⟩ := open288 hS.size
          have p2 := hS.s2; have p3 := hS.s3; have p4 := hS.s4; have p5 := hS.s5; have p6 := hS.s6
          have hdf := hS.df
          rw [hug _ (by omega)] at p2 p3 p4 p5 p6 h218 h219 h220 h15 h226 h227 h228
          obtain ⟨tm, df⟩ := a
          dsimp only at hu hdf
          subst hu hdf
          clear hS hug
          rw [p2, p3, p4, p5, p6, h218, h219, h220, h15, h226, h227, h228]
          clear p2 p3 p4 p5 p6 h218 h219 h220 h15 h226 h227 h228
          by_cases hkc : k < rcn
          · have hkn : ((k : Int) < (rcn : Int)) = True := eq_true (by omega)
            obtain ⟨col, hcl⟩ : ∃ y, r.cols[k]? = some y := ⟨_, List.getElem?_eq_getElem (by have := HCN.out; omega)⟩
            obtain ⟨cb, co, hca, hcb, hcc⟩ := setl_at HCO.out (j := k) (x := colL col) (by rw [List.getElem?_map, hcl]; rfl)
            obtain rfl : rca = some ⟨cb, co, none⟩ := hca
            have HCL := Lib.hid hcl
            obtain ⟨cn, ct, cx⟩ := col
            have t0 : wx.cell? ⟨cb, co + k * 3, none⟩ = some (.string cn) := cell_kept (hcc 0 _ rfl) HG.out.cm.below
            have t1 : wx.cell? ⟨cb, co + k * 3 + 1, none⟩ = some (.int .i64 ct) := cell_kept (hcc 1 _ rfl) HG.out.cm.below
            have t2 : wx.cell? ⟨cb, co + k * 3 + 2, none⟩ = some (.bool cx) := cell_kept (hcc 2 _ rfl) HG.out.cm.below
            obtain ⟨bb, bo, rfl, hbb, hbc⟩ := setl_at HG.out.hold.begs.1 (j := j) (x := intL r.beg) (by rw [List.getElem?_map, HRJ.out]; rfl)
            have b0 : wx.cell? ⟨bb, bo + j, none⟩ = some (.int .i64 r.beg) := by have := hbc 0 _ rfl; rwa [Nat.mul_one, Nat.add_zero] at this
            have HW2 := fun O => Lib.hid (HG.out.keep (fq_stay ..) (below1 wx O))
            have z0 : (wx.alloc (.cells #[.string cn, .int .i64 ct, .bool cx] 81)).cell? ⟨bb, bo + j, none⟩ = some (.int .i64 r.beg) := cell_kept b0 (below1 wx _)
            have z1 : (wx.alloc (.cells #[.string cn, .int .i64 ct, .bool cx] 81)).cell? ⟨wx.heap.size, 1, none⟩ = some (.int .i64 ct) := cell_of_row _ _ _ _ _ _ (heap_alloc_new wx _)
            obtain ⟨xb, hxb⟩ : ∃ n, n = wx.heap.size := ⟨_, rfl⟩
            clear hcc hbc hcb hbb hcl
            go_upto_region 39 with (fail)
            have HG6 := HW2 (.cells #[.string cn, .int .i64 ct, .bool cx] 81)
            rw [← hxb] at z1 ⊢
            clear b0 t0 t1 t2 hxb HW2 HG
            generalize wx.alloc (.cells #[.string cn, .int .i64 ct, .bool cx] 81) = w6 at HG6 z0 z1 ⊢
            have q6 := cell_of_row _ _ 6 _ _ _ HG6.out.cm.q
            have y6 := frozen_of_row _ _ 6 _ _ HG6.out.cm.q
            have c2' : w6.cell? ⟨w.heap.size + 4, 2, none⟩ = some (.slice (some ⟨bb, bo, none⟩) m c3) := cell_of_row _ _ 2 _ _ _ HG6.out.cm.sc
            have hz6 := heap_lt HG6.out.cm.q
            have hz7 := heap_lt HG6.out.cm.sc
            have hwr : IntKind.i64.wrap (r.beg + (k : Int)) = r.beg + (k : Int) := IntWalk.i64_in _ (by have := HBT.out; omega)
            go_region_law (first
              | (refine step_one 45 54 10 112 nodeZ Tryz.underlying45 info54 rfl (by omega) (by omega) _ (by rfl) (.tmp 234) (.tmp 245) (by rfl) (w.heap.size + 5) v us.length us.flatten (by rfl) (own_kept HG6.out.own (show Below w6.heap.size w6 _ from by go_grown) (Nat.le_refl _)) _ 1 (ndZ (colN r.beg k ⟨cn, ct, cx⟩)) (by rfl) (by rfl) (by rfl) (show ((w6.alloc _).drew).heap[w6.heap.size]? = _ from heap_alloc_new w6 _) (by omega) (by have := HG6.out.cm.lt; simp; omega) ?_
                 intro v8 w8 hown hgr hv8
                 obtain ⟨A8, c8, rfl⟩ := own_slice hown
                 have HM := Lib.hid (((HG6.out.nd (leaf_nd hn r.beg k ⟨cn, ct, cx⟩)).keep (fq_stay ..) (below1 w6 _).drew).app (fq_stay ..) hown hgr (by first | exact hv8 | simpa using hv8))
                 have y6b := frozen_of_row _ _ 6 _ _ HM.out.cm.q
                 have q6b := cell_of_row _ _ 6 _ _ _ HM.out.cm.q
                 have hz8 := heap_lt HM.out.cm.q
                 clear hown hgr hv8)
              | fail)
            all_goals
              have HM2 := Lib.hid (HM.out.setQ (fq_stay ..) 6 (.slice A8 (us.length + 1) c8))
              clear HM HG6
              go_wp2_with fail
              refine ⟨⟨⟨?_, ?_, ?_, ?_, ?_, ?_, ?_⟩, ?_, ?_, ?_, ?_, ?_, ?_, k + 1, .slice A8 (us.length + 1) c8, us ++ [ndZ (colN r.beg k ⟨cn, ct, cx⟩)], by omega, ?_, by rw [List.length_append]; show us.length + 1 ≤ _; omega, Lib.hid ?_, Lib.hid ?_⟩, ?_⟩
              all_goals first | rfl | skip
              · intro x hx
                rcases List.mem_append.1 hx with h | h
                · exact HL.out x h
                · obtain rfl : x = ndZ _ := by simpa using h
                  rfl
              · have := HM2.out
                rw [star_snoc HCL.out, ← List.append_assoc, List.length_append, List.flatten_append]
                simpa using this
              · show rcn - (intOf (.int .i64 _)).toNat < rcn - (intOf (.int .i64 _)).toNat
                simp [intOf] <;> omega
          · obtain rfl : k = rcn := by omega
            have hkn : ((k : Int) < (k : Int)) = False := eq_false (by omega)
            go_wp2_with fail
            refine ⟨⟨⟨?_, ?_, ?_, ?_, ?_, ?_, ?_⟩, ?_, ?_, j + 1, v, us, by omega, ?_, by omega, HL, Lib.hid ?_⟩, ?_⟩
            all_goals first | rfl | skip
            · have := HG.out
              rw [show r.cols.take k = r.cols from List.take_of_length_le (by have := HCN.out; omega)] at this
              rw [star_more HRJ.out, ← List.append_assoc]
              exact this
            · show m - (intOf (.int .i64 _)).toNat < m - (intOf (.int .i64 _)).toNat
              simp [intOf] <;> omega
      · obtain rfl : j = m := by omega
        have hjn : ((j : Int) < (j : Int)) = False := eq_false (by omega)
        have hT : rows.take j = rows := List.take_of_length_le (by have := HM.out; omega)
        rw [hT] at HG
        obtain ⟨iA, ic, rfl, hG2⟩ := HG.out.items HL.out
        have HG2 := Lib.hid hG2
        clear hG2 HG
        go_wp2_with fail
        refine HK.out _ _ (HSEG.out _ _ _ _ _ ⟨?_, ?_, ?_, ?_, ?_, ?_, ?_⟩ HG2.out) <;> rfl
end Go.Proofs.YthdmfaepjemopaaGreatDoor
namespace Go.Proofs.YthdmfaepjemopaaGreatDoor
open Go.RowKit

set_option maxRecDepth 100000 in
set_option maxHeartbeats 4000000 in
theorem folds_any (x : Ex) (w : World) : Calls Tryz.prog 38 #[exV x] w (RetV (.bool (foldK x.kind)) w) := by
  obtain ⟨k, op, ⟨lk, ln, lf, ls⟩, tn, nm, ng, xa, xc, xs⟩ := x
  unfold exV
  dsimp only [Ex.kind, Ex.op, Ex.lit, Ex.table, Ex.name, Ex.neg, Ex.A, Ex.c, Ex.args]
  generalize xs.length = q
  have sf := store_float
  by_cases h : 10 ≤ k
  · have g1 : ((10 : Int) ≤ k) = True := eq_true h
    have e : foldK k = decide (k ≤ 13) := by unfold foldK; rw [decide_eq_true h, Bool.true_and]
    rw [e]
    go_enter Tryz.func38, Tryz.ntmps38
    go_wp2_with fail
    go_ret
    exact ⟨rfl, below1 w _⟩
  · have g1 : ((10 : Int) ≤ k) = False := eq_false h
    have e : foldK k = false := by unfold foldK; rw [decide_eq_false h, Bool.false_and]
    rw [e]
    go_enter Tryz.func38, Tryz.ntmps38
    go_wp2_with fail
    go_ret
    exact ⟨rfl, below1 w _⟩
set_option maxRecDepth 100000 in
set_option maxHeartbeats 4000000 in
theorem index_expr (A : Option Addr) (c : Nat) (l : List Ex) (w : World) (hc : CellsAt w 10 A (l.map exL)) : Calls Tryz.prog 66 #[.slice A l.length c, .func (.func 38) #[] #[]] w (fun e w' => ∃ r : Int, e = .returned (.int .i64 r) ∧ decide (0 ≤ r) = l.any (fun x => foldK x.kind) ∧ Below w.heap.size w w') := by
  obtain ⟨n, hn⟩ : ∃ n, n = l.length := ⟨_, rfl⟩
  have hs : n ≤ maxLen := by rw [hn]; have := hc.1; rwa [List.length_map] at this
  unfold maxLen at hs
  have H := Lib.hid hc
  rw [← hn]
  have HN := Lib.hid hn
  have eg : ∀ args w, (callFunc 38 args).run Tryz.prog w = .ok (.enter 38 args) w := Go.Proofs.enters_of Tryz.func38 (by kernel_rfl) rfl
  clear hc hn
  go_enter Tryz.func66, Tryz.ntmps66
  go_wp2_with fail
  go_loopw [8] (fun i wr => ∃ k : Nat, k ≤ n ∧ i = .int .i64 k ∧ Below w.heap.size w wr ∧ Hid (∀ x ∈ l.take k, foldK x.kind = false)) (fun i _ => n - (intOf i).toNat)
  case atStart => exact ⟨0, Nat.zero_le _, rfl, Below.refl _ _, Lib.hid (fun x hx => by cases hx)⟩
  case round =>
    obtain ⟨k, hk, rfl, hB, HC⟩ := hrel
    obtain ⟨wo, rfl⟩ : ∃ wo : World, wo = wr := ⟨_, rfl⟩
    have HB := Lib.hid hB
    clear hB
    have sf := store_float
    by_cases hlt : k < n
    · have hkn : ((k : Int) < (n : Int)) = True := eq_true (by omega)
      obtain ⟨y, hy⟩ : ∃ y, l[k]? = some y := ⟨_, List.getElem?_eq_getElem (by have := HN.out; omega)⟩
      obtain ⟨eb, eo, rfl, heb, hyc⟩ := ex_at H.out hy
      have t0 : wo.cell? ⟨eb, eo + k * 10, none⟩ = some (.int .i64 y.kind) := cell_kept (hyc 0 _ rfl) HB.out
      have t1 := cell_kept (hyc 1 _ rfl) HB.out
      have t2 := cell_kept (hyc 2 _ rfl) HB.out
      have t3 := cell_kept (hyc 3 _ rfl) HB.out
      have t4 := cell_kept (hyc 4 _ rfl) HB.out
      have t5 := cell_kept (hyc 5 _ rfl) HB.out
      have t6 := cell_kept (hyc 6 _ rfl) HB.out
      have t7 := cell_kept (hyc 7 _ rfl) HB.out
      have t8 := cell_kept (hyc 8 _ rfl) HB.out
      have t9 := cell_kept (hyc 9 _ rfl) HB.out
      have HF := folds_any y wo
      have HYJ := Lib.hid hy
      clear hyc hy heb
      cases hq : foldK y.kind with
      | true =>
        rw [hq] at HF
        have HR := Lib.hid (show decide ((0 : Int) ≤ (k : Int)) = l.any (fun x => foldK x.kind) by
          rw [List.any_eq_true.2 ⟨y, List.mem_of_getElem? HYJ.out, hq⟩, decide_eq_true (by omega)])
        clear hq
        go_wp2_with (first
          | (go_at_fn 38; (with_reducible refine HF.mono ?_); rintro e w2 ⟨rfl, hB2⟩)
          | fail)
        go_ret
        exact ⟨k, rfl, HR.out, HB.out.trans (hB2.mono HB.out.size)⟩
      | false =>
        rw [hq] at HF
        have HD := Lib.hid (show ∀ x ∈ l.take (k + 1), foldK x.kind = false from fun x hx => by
          rw [List.take_add_one, HYJ.out, List.mem_append] at hx
          rcases hx with hx | hx
          · exact HC.out x hx
          · obtain rfl : x = y := by simpa using hx
            exact hq)
        clear hq
        go_wp2_with (first
          | (go_at_fn 38; (with_reducible refine HF.mono ?_); rintro e w2 ⟨rfl, hB2⟩)
          | fail)
        go_roundw
        case rel => exact ⟨k + 1, by omega, by go_num, HB.out.trans (hB2.mono HB.out.size), HD⟩
        case measure => simp [intOf] <;> omega
    · obtain rfl : k = n := by omega
      have hkn : ((k : Int) < (k : Int)) = False := eq_false (by omega)
      have HR := Lib.hid (show decide ((0 : Int) ≤ (-1 : Int)) = l.any (fun x => foldK x.kind) by
        have := HC.out
        rw [List.take_of_length_le (by have := HN.out; omega)] at this
        rw [eq_comm, show decide ((0 : Int) ≤ (-1 : Int)) = false from rfl, List.any_eq_false]
        intro x hx
        rw [this x hx]
        decide)
      go_wp2_with fail
      go_ret
      exact ⟨-1, rfl, HR.out, HB.out⟩
set_option maxHeartbeats 4000000 in
theorem has_fold (A : Option Addr) (c : Nat) (l : List Ex) (w : World) (hc : CellsAt w 10 A (l.map exL)) : Calls Tryz.prog 37 #[.slice A l.length c, .func (.func 38) #[] #[]] w (RetV (.bool (l.any fun x => foldK x.kind)) w) := by
  have HI := Lib.hid (index_expr A c l w hc)
  generalize l.any (fun x => foldK x.kind) = b at HI
  generalize l.length = n at HI
  clear hc
  go_enter Tryz.func37, Tryz.ntmps37
  go_wp2_with (first
    | (go_at_call 66; (with_reducible refine HI.out.mono ?_); rintro e w' ⟨r, rfl, hr, hB⟩)
    | fail)
  go_ret
  exact ⟨rfl, hB⟩
end Go.Proofs.YthdmfaepjemopaaGreatDoor
