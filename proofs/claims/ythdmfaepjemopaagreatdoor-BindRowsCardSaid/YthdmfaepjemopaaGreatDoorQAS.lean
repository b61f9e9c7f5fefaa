/- The walk of a scope's truths. What the rows of an insert are bound to: the plain law. What stands while a query is bound: the boxes, what is settled, the row that grows. The plain side of binding a query; the code of choose, cut into its segments. -/
import Derived.Test.YthdmfaepjemopaaGreatDoorQAR
import Derived.Test.YthdmfaepjemopaaGreatDoorQAM
import Derived.Test.YthdmfaepjemopaaGreatDoorQAI
namespace Go.Proofs.YthdmfaepjemopaaGreatDoor
open Go.RowKit

def catR (f : Ex → Except Int (List Nd)) : List Ex → Except Int (List Nd)
  | [] => .ok []
  | x :: l => match f x with
    | .error e => .error e
    | .ok p => match catR f l with
      | .error e => .error e
      | .ok ps => .ok (p ++ ps)
def holdR (n : Nat) (rows : List Row) (fo : Bool) (x : Ex) : Except Int (List Nd) := match bindR n rows fo x with
  | .error e => .error e
  | .ok p => if likeT p.ty [4] = true then .ok (partsR n p) else .error 70
theorem cat_snoc {f : Ex → Except Int (List Nd)} {l : List Ex} {j : Nat} {y : Ex} {ps p : List Nd} (hy : l[j]? = some y) (h : catR f (l.take j) = .ok ps) (hp : f y = .ok p) : catR f (l.take (j + 1)) = .ok (ps ++ p) := by
  induction l generalizing j ps with
  | nil => cases hy
  | cons x l ih =>
    cases j with
    | zero =>
      cases hy
      rw [List.take_zero] at h
      cases h
      show catR f [y] = _
      unfold catR
      rw [hp]
      show Except.ok (p ++ []) = _
      rw [List.append_nil, List.nil_append]
    | succ j =>
      rw [List.take_succ_cons] at h ⊢
      unfold catR at h ⊢
      cases hx : f x with
      | error e => rw [hx] at h; cases h
      | ok q =>
        rw [hx] at h
        dsimp only at h ⊢
        cases hl : catR f (l.take j) with
        | error e => rw [hl] at h; cases h
        | ok qs =>
          rw [hl] at h
          cases h
          rw [ih hy hl]
          show Except.ok (q ++ (qs ++ p)) = _
          rw [List.append_assoc]
theorem cat_fail {f : Ex → Except Int (List Nd)} {l : List Ex} {j : Nat} {y : Ex} {ps : List Nd} {e : Int} (hy : l[j]? = some y) (h : catR f (l.take j) = .ok ps) (hp : f y = .error e) : catR f l = .error e := by
  induction l generalizing j ps with
  | nil => cases hy
  | cons x l ih =>
    cases j with
    | zero =>
      cases hy
      unfold catR
      rw [hp]
    | succ j =>
      rw [List.take_succ_cons] at h
      unfold catR at h ⊢
      cases hx : f x with
      | error e => rw [hx] at h; cases h
      | ok q =>
        rw [hx] at h
        dsimp only at h ⊢
        cases hl : catR f (l.take j) with
        | error e => rw [hl] at h; cases h
        | ok qs =>
          rw [ih hy hl]
structure TR (n : Nat) (w : World) (r0 : Array Value) (v : Value) (vs : List (List Value)) (ps : List Nd) (W : World) : Prop where
  below : Below w.heap.size w W
  sc : W.heap[w.heap.size]? = some (.cells r0 86)
  own : W.ownsRow (w.heap.size + 1) 54 10 v vs.length vs.flatten
  nds : NdsAt clP (fun b => w.heap.size ≤ b ∧ v.ownBlock ≠ some b) W n vs ps
  lens : ∀ x ∈ vs, x.length = 10
theorem TR.keep {n : Nat} {w : World} {r0 : Array Value} {v : Value} {vs : List (List Value)} {ps : List Nd} {W W' : World} (h : TR n w r0 v vs ps W) (hB : Below W.heap.size W W') : TR n w r0 v vs ps W' :=
  ⟨h.below.trans (hB.mono h.below.size), (hB.block _ (heap_lt h.sc)).trans h.sc, own_kept h.own hB (Nat.le_refl _), h.nds.keep hB, h.lens⟩
theorem TR.more {n : Nat} {w : World} {r0 : Array Value} {v : Value} {vs us : List (List Value)} {ps qs : List Nd} {W W1 W2 : World} (h : TR n w r0 v vs ps W) (hB : Below W.heap.size W W1) {C : Nat} (hC : C ≤ W1.heap.size) (hx : NdsAt clP (fun b => W.heap.size ≤ b ∧ b < C) W1 n us qs) (hl : ∀ x ∈ us, x.length = 10)
    {v' : Value} (hown : W2.ownsRow (w.heap.size + 1) 54 10 v' (vs.length + us.length) (vs.flatten ++ us.flatten)) (hg : W1.grownBy W2 v.ownBlock) (hv : v'.ownBlock = v.ownBlock ∨ v'.ownBlock = some W1.heap.size) : TR n w r0 v' (vs ++ us) (ps ++ qs) W2 := by
  have h1 := h.keep hB
  have hb := own_base h1.own
  have hb0 := own_base h.own
  have hsz := hB.size
  have hwz := h.below.size
  refine ⟨h1.below.grown hg (by omega) (fun b e => by have := (hb b e).1; omega), (hg.block _ (heap_lt h1.sc) (fun e => by have := (hb _ e.symm).1; omega)).trans h1.sc, ?_, ?_, ?_⟩
  · rw [List.length_append, List.flatten_append]
    exact hown
  · have ok' : ∀ b, b < W1.heap.size → v.ownBlock ≠ some b → v'.ownBlock ≠ some b := fun b h1 h2 e => by
      rcases hv with hv | hv
      · rw [hv] at e; exact h2 e
      · rw [hv] at e; cases e; omega
    have hold : NdsAt clP (fun b => w.heap.size ≤ b ∧ v'.ownBlock ≠ some b) W2 n vs ps := by
      have g1 : NdsAt clP (fun b => (w.heap.size ≤ b ∧ v.ownBlock ≠ some b) ∧ b < W1.heap.size) W1 n vs ps := h1.nds.mono fun b hk hl => ⟨hk, hl⟩
      have g2 := g1.grown hg (fun b hk e => hk.1.2 e.symm)
      exact g2.mono fun b hk _ => ⟨hk.1.1, ok' b hk.2 hk.1.2⟩
    have hnew : NdsAt clP (fun b => w.heap.size ≤ b ∧ v'.ownBlock ≠ some b) W2 n us qs := by
      have hne : ∀ b, W.heap.size ≤ b → v.ownBlock ≠ some b := fun b hk e => by have := (hb0 b e).2; omega
      have g2 := hx.grown hg (fun b hk e => hne b hk.1 e.symm)
      exact g2.mono fun b hk _ => ⟨by omega, ok' b (by omega) (hne b hk.1)⟩
    exact hold.app hnew
  · intro y hy
    rcases List.mem_append.1 hy with hy | hy
    · exact h.lens y hy
    · exact hl y hy
theorem below_two {B : Nat} {w v x : World} {O O2 : Obj} (h : Below B w v) (hb : B ≤ v.heap.size) (h8 : Below ((v.alloc O).alloc O2).heap.size ((v.alloc O).alloc O2) x) : Below B w x :=
  ((h.alloc hb O).alloc (by simp; omega) O2).trans (h8.mono (by simp; omega))
theorem box_two {v x : World} {O O2 : Obj} (h8 : Below ((v.alloc O).alloc O2).heap.size ((v.alloc O).alloc O2) x) : x.heap[v.heap.size]? = some O :=
  (h8.block _ (by simp; omega)).trans ((heap_alloc_old _ _ (by simp)).trans (heap_alloc_new v O))
theorem keep_two {v x : World} {O O2 : Obj} (h8 : Below ((v.alloc O).alloc O2).heap.size ((v.alloc O).alloc O2) x) : Below v.heap.size v x := below_two (Below.refl _ _) (Nat.le_refl _) h8
set_option maxRecDepth 100000 in
set_option maxHeartbeats 16000000 in
theorem truths_any (n : Nat) (s : Sc) (fol : Bool) (A : Option Addr) (c : Nat) (l : List Ex) (w : World) (hS : ScAt w s) (hx : ExsAt w n A l) (hm : ∀ x ∈ l, SmallX n x) (hl : l.length ≤ 30) (hr : s.rows.length ≤ 1000)
    (hP : ∀ x ∈ l, ∀ p, bindR n s.rows fol x = .ok p → AndTwo n p ∧ (partsR n p).length ≤ 1000) :
    Calls Tryz.prog 35 #[scV s false fol, .slice A l.length c] w (ArgsO n w (catR (holdR n s.rows fol) l)) := by
  obtain ⟨R, hR⟩ : ∃ R, R = catR (holdR n s.rows fol) l := ⟨_, rfl⟩
  rw [← hR]
  have HRB := Lib.hid hR
  have HE := Lib.hid (show ∀ y ∈ l, ∀ W, Below w.heap.size w W → Calls Tryz.prog 25 #[scV s false fol, exV y] W (ExprO n W (bindR n s.rows fol y)) from fun y hy W hB => by
    have := expr_any hr n y false fol W (hS.keep hB) ((hx.2 y hy).keep hB) (hm y hy)
    rwa [Bool.not_false, Bool.and_true] at this)
  have HX := Lib.hid hx.1
  have HPP := Lib.hid hP
  obtain ⟨f, hf⟩ : ∃ f, f = bindR n s.rows fol := ⟨_, rfl⟩
  have HTR := Lib.hid (show ∀ y, holdR n s.rows fol y = match f y with | .error e => Except.error e | .ok p => if likeT p.ty [4] = true then Except.ok (partsR n p) else Except.error 70 from fun y => by rw [hf]; rfl)
  rw [← hf] at HE HPP
  obtain ⟨ft, hft⟩ : ∃ ft, ft = holdR n s.rows fol := ⟨_, rfl⟩
  rw [← hft] at HTR HRB
  clear hf hft hR hS hm hr hP hx
  obtain ⟨sa, sc, ta, tc, ba, bc, rows⟩ := s
  unfold scV at HE ⊢
  dsimp only at HE ⊢
  obtain ⟨q, hq⟩ : ∃ q, q = l.length := ⟨_, rfl⟩
  obtain ⟨rn, hrn⟩ : ∃ q, q = rows.length := ⟨_, rfl⟩
  have HQ := Lib.hid hq
  rw [← hrn] at HE ⊢
  rw [← hq] at hl ⊢
  clear hq hrn
  have HCY := fun w => check_yes 70 w
  have HCN := fun w => check_no 70 w
  have HLK := Lib.hid (show ∀ (t : Int) (b : Nat) (W : World), W.heap.size = b → Calls Tryz.prog 26 #[.int .i64 t, .slice (some ⟨b, 0, none⟩) 1 1] (W.alloc (.cells #[.int .i64 4] 3)) (RetV (.bool (likeT t [4])) (W.alloc (.cells #[.int .i64 4] 3))) from fun t b W h => like_any t (some ⟨b, 0, none⟩) 1 [4] _ (ints_at W b [4] (by show 1 ≤ 1000; omega) h))
  obtain ⟨r0, hr0⟩ : ∃ r : Array Value, r = #[.slice sa rn sc, .slice ta rn tc, .slice ba rn bc, .bool false, .bool fol] := ⟨_, rfl⟩
  have HR0 := Lib.hid hr0
  have HST := Lib.hid (show TR n w r0 (.slice none 0 0) [] [] (w.alloc (.cells #[.slice sa rn sc, .slice ta rn tc, .slice ba rn bc, .bool false, .bool fol] 86)) from by
    rw [hr0]
    exact ⟨below1 w _, heap_alloc_new w _, World.ownsRow_nil _ _ _ _, ⟨rfl, fun i x q h => by cases h⟩, fun x h => (List.not_mem_nil h).elim⟩)
  clear hr0
  have sf := store_float
  go_enter Tryz.func35, Tryz.ntmps35
  go_wp2_with fail
  go_loopw [5, 11] (fun v i wr => ∃ (j : Nat) (vs : List (List Value)) (ps : List Nd), j ≤ q ∧ i = .int .i64 j ∧ vs.length ≤ j * 1000 ∧ Hid (catR ft (l.take j) = .ok ps) ∧ Hid (TR n w r0 v vs ps wr)) (fun _ i _ => q - (intOf i).toNat)
  case atStart => exact ⟨0, [], [], Nat.zero_le _, rfl, Nat.le_refl _, Lib.hid rfl, HST⟩
  case round =>
    clear HST
    obtain ⟨j, vs, ps, hj, rfl, hvl, HBA, HA⟩ := hrel
    obtain ⟨wo, rfl⟩ : ∃ wo : World, wo = wr := ⟨_, rfl⟩
    by_cases hjq : j < q
    · have hjn : ((j : Int) < (q : Int)) = True := eq_true (by omega)
      obtain ⟨y, hy⟩ : ∃ y, l[j]? = some y := ⟨_, List.getElem?_eq_getElem (by have := HQ.out; omega)⟩
      obtain ⟨eb, eo, rfl, heb, hyc⟩ := ex_at HX.out hy
      have t0 : wo.cell? ⟨eb, eo + j * 10, none⟩ = some (.int .i64 y.kind) := cell_kept (hyc 0 _ rfl) HA.out.below
      have t1 := cell_kept (hyc 1 _ rfl) HA.out.below
      have t2 := cell_kept (hyc 2 _ rfl) HA.out.below
      have t3 := cell_kept (hyc 3 _ rfl) HA.out.below
      have t4 := cell_kept (hyc 4 _ rfl) HA.out.below
      have t5 := cell_kept (hyc 5 _ rfl) HA.out.below
      have t6 := cell_kept (hyc 6 _ rfl) HA.out.below
      have t7 := cell_kept (hyc 7 _ rfl) HA.out.below
      have t8 := cell_kept (hyc 8 _ rfl) HA.out.below
      have t9 := cell_kept (hyc 9 _ rfl) HA.out.below
      have hsc := HA.out.sc
      rw [HR0.out] at hsc
      have s0 := cell_of_row _ _ 0 _ _ _ hsc
      have s1 := cell_of_row _ _ 1 _ _ _ hsc
      have s2 := cell_of_row _ _ 2 _ _ _ hsc
      have s3 := cell_of_row _ _ 3 _ _ _ hsc
      have s4 := cell_of_row _ _ 4 _ _ _ hsc
      have hzs := heap_lt hsc
      have HY := Lib.hid (show ∀ O, Calls Tryz.prog 25 #[.agg #[.slice sa rn sc, .slice ta rn tc, .slice ba rn bc, .bool false, .bool fol], exV y] (wo.alloc O) (ExprO n (wo.alloc O) (f y)) from fun O => HE.out y (List.mem_of_getElem? hy) _ (HA.out.below.trans ((below1 wo O).mono HA.out.below.size)))
      have HYJ := Lib.hid hy
      have HPY := Lib.hid (HPP.out y (List.mem_of_getElem? hy))
      have HSZ := Lib.hid HA.out.below.size
      have HFY := Lib.hid (HTR.out y)
      clear hyc hsc hy
      cases hf : f y with
      | error er =>
        obtain rfl : R = .error er := HRB.out.trans (cat_fail HYJ.out HBA.out (by rw [HFY.out, hf]))
        rw [hf] at HY
        clear hf
        go_wp2_with (first
          | (go_at_call 25; (with_reducible refine (HY.out _).mono ?_); rintro e w5 ⟨hB5, rfl⟩)
          | fail)
        exact ⟨rfl, HA.out.below.trans (((below1 wo _).trans (hB5.mono (below1 wo _).size)).mono HSZ.out), rfl⟩
      | ok p =>
        have HPY := Lib.hid (HPY.out p hf)
        cases hlk : likeT p.ty [4] with
        | false =>
          obtain rfl : R = .error 70 := HRB.out.trans (cat_fail HYJ.out HBA.out (by rw [HFY.out, hf]; dsimp only; rw [hlk]; rfl))
          rw [hf] at HY
          have HLF := Lib.hid (show ∀ (b : Nat) (W : World), W.heap.size = b → Calls Tryz.prog 26 #[.int .i64 p.ty, .slice (some ⟨b, 0, none⟩) 1 1] (W.alloc (.cells #[.int .i64 4] 3)) (RetV (.bool false) (W.alloc (.cells #[.int .i64 4] 3))) from fun b W h => by
            have := HLK.out p.ty b W h
            rwa [hlk] at this)
          clear hf hlk
          go_wp2_with (first
            | (go_at_call 25; (with_reducible refine (HY.out _).mono ?_); rintro e w5 ⟨hB5, A5, c5, q5, rfl, hN5⟩
               have HB5 := Lib.hid (show Below wo.heap.size wo w5 from (below1 wo _).trans (hB5.mono (below1 wo _).size))
               have HN5 := Lib.hid (show NdAt clP (wo.heap.size ≤ ·) w5 n (ndL p (clP p.lit) A5 q5 c5) p from hN5.mono fun b h1 _ => Nat.le_trans (below1 wo _).size h1)
               clear hB5 hN5)
            | (go_at_call 26; (with_reducible refine (HLF.out _ _ (by simp)).mono ?_); rintro e w8 ⟨rfl, hB8⟩
               have HB8 := Lib.hid (below_two HB5.out HB5.out.size hB8)
               have HBX := Lib.hid (box_two hB8)
               have HN8 := Lib.hid (HN5.out.keep (keep_two hB8))
               have HZ8 := Lib.hid (keep_two hB8).size
               clear hB8)
            | (go_at_call 24; (with_reducible refine (HCN _).mono ?_); rintro e w' ⟨rfl, rfl⟩)
            | fail)
          exact ⟨rfl, HA.out.below.trans (HB8.out.mono HSZ.out), rfl⟩
        | true =>
          have HR := Lib.hid (cat_snoc HYJ.out HBA.out (show ft y = .ok (partsR n p) by rw [HFY.out, hf]; dsimp only; rw [hlk]; rfl))
          rw [hf] at HY
          have HLF := Lib.hid (show ∀ (b : Nat) (W : World), W.heap.size = b → Calls Tryz.prog 26 #[.int .i64 p.ty, .slice (some ⟨b, 0, none⟩) 1 1] (W.alloc (.cells #[.int .i64 4] 3)) (RetV (.bool true) (W.alloc (.cells #[.int .i64 4] 3))) from fun b W h => by
            have := HLK.out p.ty b W h
            rwa [hlk] at this)
          clear hf hlk
          go_upto_region 7 with (first
            | (go_at_call 25; (with_reducible refine (HY.out _).mono ?_); rintro e w5 ⟨hB5, A5, c5, q5, rfl, hN5⟩
               have HB5 := Lib.hid (show Below wo.heap.size wo w5 from (below1 wo _).trans (hB5.mono (below1 wo _).size))
               have HN5 := Lib.hid (show NdAt clP (wo.heap.size ≤ ·) w5 n (ndL p (clP p.lit) A5 q5 c5) p from hN5.mono fun b h1 _ => Nat.le_trans (below1 wo _).size h1)
               clear hB5 hN5)
            | (go_at_call 26; (with_reducible refine (HLF.out _ _ (by simp)).mono ?_); rintro e w8 ⟨rfl, hB8⟩
               have HB8 := Lib.hid (below_two HB5.out HB5.out.size hB8)
               have HBX := Lib.hid (box_two hB8)
               have HN8 := Lib.hid (HN5.out.keep (keep_two hB8))
               have HZ8 := Lib.hid (keep_two hB8).size
               clear hB8)
            | (go_at_call 24; (with_reducible refine (HCY _).mono ?_); rintro e w' ⟨rfl, rfl⟩)
            | fail)
          have HPT := Lib.hid (parts_any n (wo.heap.size ≤ ·) p A5 q5 c5 w8 HN8.out HPY.out.1 HPY.out.2)
          have HLN := Lib.hid HPY.out.2
          obtain ⟨x0, x1, x2, x3, x4, x5, x6, x7, x8, x9⟩ := row10 (show w8.heap[w5.heap.size]? = some (.cells #[.int .i64 p.kind, .string p.op, .int .i64 (clP p.lit).k, .int .i64 (clP p.lit).n, .float .f64 (clP p.lit).f, .string (clP p.lit).s, .int .i64 p.pos, .bool p.neg, .int .i64 p.ty, .slice A5 q5 c5] 54) from HBX.out)
          go_wp2_with (first
            | (go_at_call 64; (with_reducible refine HPT.out.mono ?_); rintro e w9 ⟨hB9, v9, us, rfl, hO9, hL9, hN9⟩
               have HB9 := Lib.hid (HB8.out.trans (hB9.mono HB8.out.size))
               have HU9 := Lib.hid (And.intro hL9 hN9)
               have HP9 := Lib.hid hB9.size
               obtain ⟨g9, k9, rfl, _, hg9, hc9⟩ := own_take hO9 (by rw [hN9.1]; exact partsR_pos n p)
               have HC9 := Lib.hid hc9
               clear hB9 hO9 hL9 hN9 hg9 hc9)
            | (at_builtin; refine list_many 45 54 10 112 nodeZ Tryz.underlying45 info54 rfl (by omega) (by omega) _ rfl _ _ rfl (w.heap.size + 1) _ vs.length vs.flatten rfl (HA.out.keep HB9.out).own g9 us.length k9 us.flatten (flat_len (fun x hx => (HU9.out.1 x hx).1)) (flat_one (fun x hx => (HU9.out.1 x hx).2)) rfl HC9.out ?c3 ?c4 ?_)
            | fail)
          case c3 => have := HU9.out.2.1; have := HLN.out; omega
          case c4 => have := HSZ.out; have := HB9.out.size; have := heap_lt HA.out.sc; omega
          intro v8 wz hown hgr hv8
          have HM := Lib.hid (HA.out.more HB9.out (C := w8.heap.size) HP9.out HU9.out.2 (fun x hx => (HU9.out.1 x hx).1) hown hgr hv8)
          clear hown hgr hv8
          go_wp2_with fail
          go_roundw
          case rel => exact ⟨j + 1, vs ++ us, ps ++ partsR n p, by omega, by go_num, by rw [List.length_append]; have := HU9.out.2.1; have := HLN.out; omega, Lib.hid HR.out, HM⟩
          case measure => simp [intOf] <;> omega
    · obtain rfl : j = q := by omega
      have hjn : ((j : Int) < (j : Int)) = False := eq_false (by omega)
      go_wp2_with fail
      have HT := HBA.out
      rw [List.take_of_length_le (by have := HQ.out; omega)] at HT
      obtain rfl : R = .ok ps := HRB.out.trans HT
      obtain ⟨A, c, hv, hc, hC, hA, _⟩ := own_cells HA.out.own HA.out.lens rfl
      subst hv
      go_ret
      exact ⟨HA.out.below, A, c, vs, rfl, hC, fun a ha => by have := (hA a ha).1; omega, HA.out.nds.mono fun b hb _ => hb.1⟩
end Go.Proofs.YthdmfaepjemopaaGreatDoor
namespace Go.Proofs.YthdmfaepjemopaaGreatDoor
open Go.RowKit

structure XRow where
  A : Option Addr
  c : Nat
  xs : List Ex
def cellR (f : Ex → Except Int Nd) (t : Int) (x : Ex) : Except Int Nd := match f x with
  | .error e => .error e
  | .ok p => if p.ty = 0 ∨ p.ty = t then .ok p else .error 70
def rowR (f : Ex → Except Int Nd) : List Int → List Ex → Except Int (List Nd)
  | t :: ts, x :: xs => match cellR f t x with
    | .error e => .error e
    | .ok p => match rowR f ts xs with
      | .error e => .error e
      | .ok ps => .ok (p :: ps)
  | _, _ => .ok []
def lineR (f : Ex → Except Int Nd) (ts : List Int) (r : XRow) : Except Int (List Nd) := if r.xs.length = ts.length then rowR f ts r.xs else .error 7
def linesR (f : Ex → Except Int Nd) (ts : List Int) : List XRow → Except Int (List (List Nd))
  | [] => .ok []
  | r :: l => match lineR f ts r with
    | .error e => .error e
    | .ok p => match linesR f ts l with
      | .error e => .error e
      | .ok ps => .ok (p :: ps)
def rowsR (f : Ex → Except Int Nd) (ts : List Int) (l : List XRow) : Except Int (List (List Nd)) := if l = [] then .error 7 else if 16 < l.length then .error 11 else linesR f ts l
theorem row_snoc {f : Ex → Except Int Nd} : ∀ {ts : List Int} {xs : List Ex} {j : Nat} {t : Int} {x : Ex} {ps : List Nd} {p : Nd}, ts[j]? = some t → xs[j]? = some x → rowR f (ts.take j) (xs.take j) = .ok ps → cellR f t x = .ok p → rowR f (ts.take (j + 1)) (xs.take (j + 1)) = .ok (ps ++ [p])
  | [], _, _, _, _, _, _, ht, _, _, _ => by cases ht
  | _ :: _, [], _, _, _, _, _, _, hx, _, _ => by cases hx
  | t0 :: ts, x0 :: xs, 0, t, x, ps, p, ht, hx, h, hp => by
    cases ht
    cases hx
    rw [List.take_zero, List.take_zero] at h
    cases h
    show rowR f [t0] [x0] = _
    unfold rowR
    rw [hp]
    rfl
  | t0 :: ts, x0 :: xs, j + 1, t, x, ps, p, ht, hx, h, hp => by
    rw [List.take_succ_cons, List.take_succ_cons] at h ⊢
    unfold rowR at h ⊢
    cases h0 : cellR f t0 x0 with
    | error e => rw [h0] at h; cases h
    | ok q =>
      rw [h0] at h
      dsimp only at h ⊢
      cases hl : rowR f (ts.take j) (xs.take j) with
      | error e => rw [hl] at h; cases h
      | ok qs =>
        rw [hl] at h
        cases h
        rw [row_snoc (ts := ts) (xs := xs) (j := j) ht hx hl hp]
        rfl
theorem row_fail {f : Ex → Except Int Nd} : ∀ {ts : List Int} {xs : List Ex} {j : Nat} {t : Int} {x : Ex} {ps : List Nd} {e : Int}, ts[j]? = some t → xs[j]? = some x → rowR f (ts.take j) (xs.take j) = .ok ps → cellR f t x = .error e → rowR f ts xs = .error e
  | [], _, _, _, _, _, _, ht, _, _, _ => by cases ht
  | _ :: _, [], _, _, _, _, _, _, hx, _, _ => by cases hx
  | t0 :: ts, x0 :: xs, 0, t, x, ps, e, ht, hx, h, hp => by
    cases ht
    cases hx
    unfold rowR
    rw [hp]
  | t0 :: ts, x0 :: xs, j + 1, t, x, ps, e, ht, hx, h, hp => by
    rw [List.take_succ_cons, List.take_succ_cons] at h
    unfold rowR at h ⊢
    cases h0 : cellR f t0 x0 with
    | error e => rw [h0] at h; cases h
    | ok q =>
      rw [h0] at h
      dsimp only at h ⊢
      cases hl : rowR f (ts.take j) (xs.take j) with
      | error e => rw [hl] at h; cases h
      | ok qs => rw [row_fail (ts := ts) (xs := xs) (j := j) ht hx hl hp]
theorem lines_snoc {f : Ex → Except Int Nd} {ts : List Int} : ∀ {l : List XRow} {j : Nat} {r : XRow} {ps : List (List Nd)} {p : List Nd}, l[j]? = some r → linesR f ts (l.take j) = .ok ps → lineR f ts r = .ok p → linesR f ts (l.take (j + 1)) = .ok (ps ++ [p])
  | [], _, _, _, _, hr, _, _ => by cases hr
  | r0 :: l, 0, r, ps, p, hr, h, hp => by
    cases hr
    rw [List.take_zero] at h
    cases h
    show linesR f ts [r0] = _
    unfold linesR
    rw [hp]
    rfl
  | r0 :: l, j + 1, r, ps, p, hr, h, hp => by
    rw [List.take_succ_cons] at h ⊢
    unfold linesR at h ⊢
    cases h0 : lineR f ts r0 with
    | error e => rw [h0] at h; cases h
    | ok q =>
      rw [h0] at h
      dsimp only at h ⊢
      cases hl : linesR f ts (l.take j) with
      | error e => rw [hl] at h; cases h
      | ok qs =>
        rw [hl] at h
        cases h
        rw [lines_snoc (l := l) (j := j) hr hl hp]
        rfl
theorem lines_fail {f : Ex → Except Int Nd} {ts : List Int} : ∀ {l : List XRow} {j : Nat} {r : XRow} {ps : List (List Nd)} {e : Int}, l[j]? = some r → linesR f ts (l.take j) = .ok ps → lineR f ts r = .error e → linesR f ts l = .error e
  | [], _, _, _, _, hr, _, _ => by cases hr
  | r0 :: l, 0, r, ps, e, hr, h, hp => by
    cases hr
    unfold linesR
    rw [hp]
  | r0 :: l, j + 1, r, ps, e, hr, h, hp => by
    rw [List.take_succ_cons] at h
    unfold linesR at h ⊢
    cases h0 : lineR f ts r0 with
    | error e => rw [h0] at h; cases h
    | ok q =>
      rw [h0] at h
      dsimp only at h ⊢
      cases hl : linesR f ts (l.take j) with
      | error e => rw [hl] at h; cases h
      | ok qs => rw [lines_fail (l := l) (j := j) hr hl hp]
end Go.Proofs.YthdmfaepjemopaaGreatDoor
namespace Go.Proofs.YthdmfaepjemopaaGreatDoor
open Go.RowKit

def Setl (ok : Nat → Prop) (W : World) (K : Nat) (A : Option Addr) (ls : List (List Value)) : Prop := CellsAt W K A ls ∧ (ls ≠ [] → ∀ a, A = some a → ok a.block)
theorem Setl.keep {ok : Nat → Prop} {W W' : World} {K : Nat} {A : Option Addr} {ls : List (List Value)} (h : Setl ok W K A ls) (hB : Below W.heap.size W W') : Setl ok W' K A ls := ⟨CellsAt.keep hB h.1, h.2⟩
theorem Setl.grown {ok : Nat → Prop} {W W' : World} {K : Nat} {A : Option Addr} {ls : List (List Value)} (h : Setl ok W K A ls) {r : Option Nat} (hg : W.grownBy W' r) (hr : ∀ b, ok b → some b ≠ r) : Setl ok W' K A ls := ⟨h.1.grown hg (fun hl a ha => hr _ (h.2 hl a ha)), h.2⟩
theorem Setl.mono {ok ok' : Nat → Prop} {W : World} {K : Nat} {A : Option Addr} {ls : List (List Value)} (h : Setl ok W K A ls) (hk : ∀ b, ok b → b < W.heap.size → ok' b) : Setl ok' W K A ls := ⟨h.1, fun hl a ha => hk _ (h.2 hl a ha) (h.1.block hl a ha)⟩
theorem Setl.nil (ok : Nat → Prop) (W : World) (K : Nat) (A : Option Addr) : Setl ok W K A [] := ⟨CellsAt.nil_at _ _ _, fun h => absurd rfl h⟩
structure Stay (F : (Nat → Prop) → World → Prop) : Prop where
  keep : ∀ {ok : Nat → Prop} {W W' : World}, F ok W → Below W.heap.size W W' → F ok W'
  grown : ∀ {ok : Nat → Prop} {W W' : World} {r : Option Nat}, F ok W → W.grownBy W' r → (∀ b, ok b → some b ≠ r) → F ok W'
  mono : ∀ {ok ok' : Nat → Prop} {W : World}, F ok W → (∀ b, ok b → b < W.heap.size → ok' b) → F ok' W
def strL (s : ByteArray) : List Value := [.string s]
def intL (z : Int) : List Value := [.int .i64 z]
structure Fq (n : Nat) (sa ta ba : Option Addr) (rows : List Row) (tA : Option Addr) (tl : List Int) (bA : Option Addr) (wA : Option Addr) (wcs wvs : List (List Value)) (wh : List Nd) (gA : Option Addr) (gl : List Int) (iA : Option Addr) (ics ivs : List (List Value)) (il : List Nd) (ok : Nat → Prop) (W : World) : Prop where
  strs : Setl ok W 1 sa (rows.map fun r => strL r.nm)
  tabs : Setl ok W 5 ta (rows.map fun r => tabL r.tab)
  begs : Setl ok W 1 ba (rows.map fun r => intL r.beg)
  qt : Setl ok W 1 tA (tl.map intL)
  qb : Setl ok W 1 bA (rows.map fun r => intL r.beg)
  wc : Setl ok W 10 wA wcs
  wn : NdsAt clP ok W n wvs wh
  gc : Setl ok W 1 gA (gl.map intL)
  ic : Setl ok W 10 iA ics
  nn : NdsAt clP ok W n ivs il
theorem fq_stay (n : Nat) (sa ta ba : Option Addr) (rows : List Row) (tA : Option Addr) (tl : List Int) (bA : Option Addr) (wA : Option Addr) (wcs wvs : List (List Value)) (wh : List Nd) (gA : Option Addr) (gl : List Int) (iA : Option Addr) (ics ivs : List (List Value)) (il : List Nd) : Stay (Fq n sa ta ba rows tA tl bA wA wcs wvs wh gA gl iA ics ivs il) where
  keep h hB := ⟨h.strs.keep hB, h.tabs.keep hB, h.begs.keep hB, h.qt.keep hB, h.qb.keep hB, h.wc.keep hB, h.wn.keep hB, h.gc.keep hB, h.ic.keep hB, h.nn.keep hB⟩
  grown h hg hr := ⟨h.strs.grown hg hr, h.tabs.grown hg hr, h.begs.grown hg hr, h.qt.grown hg hr, h.qb.grown hg hr, h.wc.grown hg hr, h.wn.grown hg hr, h.gc.grown hg hr, h.ic.grown hg hr, h.nn.grown hg hr⟩
  mono h hk := ⟨h.strs.mono hk, h.tabs.mono hk, h.begs.mono hk, h.qt.mono hk, h.qb.mono hk, h.wc.mono hk, h.wn.mono hk, h.gc.mono hk, h.ic.mono hk, h.nn.mono hk⟩
def qryZ : Array Value := #[.slice none 0 0, .slice none 0 0, .int .i64 0, .slice none 0 0, .slice none 0 0, .bool false, .slice none 0 0, .slice none 0 0, .int .i64 0]
structure CM (w : World) (sr xr qr cr : Array Value) (W : World) : Prop where
  below : Below w.heap.size w W
  sb : W.heap[w.heap.size]? = some (.cells sr 25)
  xb : W.heap[w.heap.size + 1]? = some (.cells xr 33)
  ans : W.heap[w.heap.size + 2]? = some (.cells qryZ 48)
  q : W.heap[w.heap.size + 3]? = some (.cells qr 48)
  sc : W.heap[w.heap.size + 4]? = some (.cells cr 86)
theorem CM.keep {w : World} {sr xr qr cr : Array Value} {W W' : World} (h : CM w sr xr qr cr W) (hB : Below W.heap.size W W') : CM w sr xr qr cr W' :=
  ⟨h.below.trans (hB.mono h.below.size), (hB.block _ (heap_lt h.sb)).trans h.sb, (hB.block _ (heap_lt h.xb)).trans h.xb, (hB.block _ (heap_lt h.ans)).trans h.ans, (hB.block _ (heap_lt h.q)).trans h.q, (hB.block _ (heap_lt h.sc)).trans h.sc⟩
theorem CM.lt {w : World} {sr xr qr cr : Array Value} {W : World} (h : CM w sr xr qr cr W) : w.heap.size + 5 ≤ W.heap.size := heap_lt h.sc
theorem CM.grown {w : World} {sr xr qr cr : Array Value} {W W' : World} (h : CM w sr xr qr cr W) {r : Option Nat} (hg : W.grownBy W' r) (hr : ∀ b, r = some b → w.heap.size + 5 ≤ b) : CM w sr xr qr cr W' := by
  have hl := h.lt
  have key : ∀ k, k < w.heap.size + 5 → W'.heap[k]? = W.heap[k]? := fun k hk => hg.block k (by omega) (fun e => by have := hr k e.symm; omega)
  exact ⟨h.below.grown hg (by omega) (fun b e => by have := hr b e; omega), (key _ (by omega)).trans h.sb, (key _ (by omega)).trans h.xb, (key _ (by omega)).trans h.ans, (key _ (by omega)).trans h.q, (key _ (by omega)).trans h.sc⟩
theorem CM.setQ {w : World} {sr xr qr cr : Array Value} {W : World} (h : CM w sr xr qr cr W) (i : Nat) (v : Value) : CM w sr xr (qr.setIfInBounds i v) cr (W.setCell ⟨w.heap.size + 3, i, none⟩ v) := by
  refine ⟨h.below.setCell (p := ⟨w.heap.size + 3, i, none⟩) (Nat.le_add_right _ 3) _, (heap_setFar _ (by omega)).trans h.sb, (heap_setFar _ (by omega)).trans h.xb, (heap_setFar _ (by omega)).trans h.ans, ?_, (heap_setFar _ (by omega)).trans h.sc⟩
  rw [setCell_eq_setRow W _ i _ 48 _ _ h.q]
  exact setRow_heap W _ _ _ 48 _ h.q
theorem CM.setC {w : World} {sr xr qr cr : Array Value} {W : World} (h : CM w sr xr qr cr W) (i : Nat) (v : Value) : CM w sr xr qr (cr.setIfInBounds i v) (W.setCell ⟨w.heap.size + 4, i, none⟩ v) := by
  refine ⟨h.below.setCell (p := ⟨w.heap.size + 4, i, none⟩) (Nat.le_add_right _ 4) _, (heap_setFar _ (by omega)).trans h.sb, (heap_setFar _ (by omega)).trans h.xb, (heap_setFar _ (by omega)).trans h.ans, (heap_setFar _ (by omega)).trans h.q, ?_⟩
  rw [setCell_eq_setRow W _ i _ 86 _ _ h.sc]
  exact setRow_heap W _ _ _ 86 _ h.sc
def okG (w : World) (v : Value) (b : Nat) : Prop := w.heap.size + 5 ≤ b ∧ v.ownBlock ≠ some b
structure GS (w : World) (sr xr qr cr : Array Value) (F : (Nat → Prop) → World → Prop) (e K : Nat) (v : Value) (n : Nat) (xs : List Value) (W : World) : Prop where
  cm : CM w sr xr qr cr W
  own : W.ownsRow (w.heap.size + 5) e K v n xs
  hold : F (okG w v) W
theorem GS.keep {w : World} {sr xr qr cr : Array Value} {F : (Nat → Prop) → World → Prop} (hF : Stay F) {e K : Nat} {v : Value} {n : Nat} {xs : List Value} {W W' : World} (h : GS w sr xr qr cr F e K v n xs W) (hB : Below W.heap.size W W') : GS w sr xr qr cr F e K v n xs W' :=
  ⟨h.cm.keep hB, own_kept h.own hB (Nat.le_refl _), hF.keep h.hold hB⟩
theorem set_stay {F : (Nat → Prop) → World → Prop} (hF : Stay F) {w : World} {v u : Value} {W : World} (h : F (okG w v) W) {b i : Nat} (hb : b < w.heap.size + 5) : F (okG w v) (W.setCell ⟨b, i, none⟩ u) :=
  hF.grown h (set_grown W b i u) (fun c hc e => by have := hc.1; have := Option.some.inj e; omega)
theorem own_far {W : World} {base e K n : Nat} {v : Value} {xs : List Value} (h : W.ownsRow base e K v n xs) {b i : Nat} (hb : b < base) (u : Value) : (W.setCell ⟨b, i, none⟩ u).ownsRow base e K v n xs :=
  ⟨h.1, h.2.imp id fun ⟨g, cap, cur, e1, e2, e3, e4⟩ => ⟨g, cap, cur, e1, e2, (heap_setFar u (by omega)).trans e3, e4⟩⟩
theorem GS.setQ {w : World} {sr xr qr cr : Array Value} {F : (Nat → Prop) → World → Prop} (hF : Stay F) {e K : Nat} {v : Value} {n : Nat} {xs : List Value} {W : World} (h : GS w sr xr qr cr F e K v n xs W) (i : Nat) (u : Value) : GS w sr xr (qr.setIfInBounds i u) cr F e K v n xs (W.setCell ⟨w.heap.size + 3, i, none⟩ u) :=
  ⟨h.cm.setQ i u, own_far h.own (by omega) u, set_stay hF h.hold (by omega)⟩
theorem GS.setC {w : World} {sr xr qr cr : Array Value} {F : (Nat → Prop) → World → Prop} (hF : Stay F) {e K : Nat} {v : Value} {n : Nat} {xs : List Value} {W : World} (h : GS w sr xr qr cr F e K v n xs W) (i : Nat) (u : Value) : GS w sr xr qr (cr.setIfInBounds i u) F e K v n xs (W.setCell ⟨w.heap.size + 4, i, none⟩ u) :=
  ⟨h.cm.setC i u, own_far h.own (by omega) u, set_stay hF h.hold (by omega)⟩
theorem GS.app {w : World} {sr xr qr cr : Array Value} {F : (Nat → Prop) → World → Prop} (hF : Stay F) {e K : Nat} {v : Value} {n : Nat} {xs : List Value} {W W' : World} (h : GS w sr xr qr cr F e K v n xs W) {v' : Value} {n' : Nat} {xs' : List Value} (hown : W'.ownsRow (w.heap.size + 5) e K v' n' xs') (hg : W.grownBy W' v.ownBlock) (hv : v'.ownBlock = v.ownBlock ∨ v'.ownBlock = some W.heap.size) : GS w sr xr qr cr F e K v' n' xs' W' := by
  have hb := own_base h.own
  refine ⟨h.cm.grown hg (fun b e => (hb b e).1), hown, ?_⟩
  have h1 : F (fun b => okG w v b ∧ b < W.heap.size) W := hF.mono h.hold fun b h1 h2 => ⟨h1, h2⟩
  have h2 := hF.grown h1 hg (fun b hk e => hk.1.2 e.symm)
  refine hF.mono h2 fun b hk _ => ⟨hk.1.1, fun e => ?_⟩
  rcases hv with hv | hv
  · rw [hv] at e; exact hk.1.2 e
  · rw [hv] at e; have := Option.some.inj e; omega
theorem own_setl {w : World} {base e K n : Nat} {v : Value} {ls : List (List Value)} (h : w.ownsRow base e K v n ls.flatten) (hl : ∀ x ∈ ls, x.length = K) (hn : n = ls.length) (ok : Nat → Prop) (hok : ∀ b, base ≤ b → v.ownBlock = some b → ok b) : ∃ A c, v = .slice A n c ∧ Setl ok w K A ls := by
  obtain ⟨A, c, h1, _, h3, h4, _⟩ := own_cells h hl hn
  refine ⟨A, c, h1, h3, fun _ a ha => hok _ (h4 a ha).1 ?_⟩
  rw [h1, ha]
  rfl
theorem ints_of {W : World} {A : Option Addr} {l : List Int} (h : CellsAt W 1 A (l.map intL)) : IntsAt W A l := by
  refine ⟨by have := h.1; rwa [List.length_map] at this, ?_⟩
  rcases h.2 with h0 | ⟨b, off, h1, h2, h3⟩
  · exact Or.inl (List.map_eq_nil_iff.1 h0)
  · refine Or.inr ⟨b, off, h1, h2, fun j z hz => ?_⟩
    have := (h3 j (intL z) (by rw [List.getElem?_map, hz]; rfl)).2 0 _ rfl
    rwa [Nat.mul_one, Nat.add_zero] at this
theorem int_flat (l : List Int) : l.map (Value.int .i64) = (l.map intL).flatten := by
  induction l with
  | nil => rfl
  | cons x l ih => rw [List.map_cons, List.map_cons, List.flatten_cons, ih]; rfl
end Go.Proofs.YthdmfaepjemopaaGreatDoor
namespace Go.Proofs.YthdmfaepjemopaaGreatDoor
open Go.RowKit

def eachR {α β : Type} (f : α → Except Int β) : List α → Except Int (List β)
  | [] => .ok []
  | x :: l => match f x with
    | .error e => .error e
    | .ok p => match eachR f l with
      | .error e => .error e
      | .ok ps => .ok (p :: ps)
theorem each_snoc {α β : Type} {f : α → Except Int β} {l : List α} {j : Nat} {y : α} {ps : List β} {p : β} (hy : l[j]? = some y) (h : eachR f (l.take j) = .ok ps) (hp : f y = .ok p) : eachR f (l.take (j + 1)) = .ok (ps ++ [p]) := by
  induction l generalizing j ps with
  | nil => cases hy
  | cons x l ih =>
    cases j with
    | zero =>
      cases hy
      rw [List.take_zero] at h
      cases h
      show eachR f [y] = _
      unfold eachR
      rw [hp]
      rfl
    | succ j =>
      rw [List.take_succ_cons] at h ⊢
      unfold eachR at h ⊢
      cases hx : f x with
      | error e => rw [hx] at h; cases h
      | ok q =>
        rw [hx] at h
        dsimp only at h ⊢
        cases hl : eachR f (l.take j) with
        | error e => rw [hl] at h; cases h
        | ok qs =>
          rw [hl] at h
          cases h
          rw [ih hy hl]
          rfl
theorem each_fail {α β : Type} {f : α → Except Int β} {l : List α} {j : Nat} {y : α} {ps : List β} {e : Int} (hy : l[j]? = some y) (h : eachR f (l.take j) = .ok ps) (hp : f y = .error e) : eachR f l = .error e := by
  induction l generalizing j ps with
  | nil => cases hy
  | cons x l ih =>
    cases j with
    | zero =>
      cases hy
      unfold eachR
      rw [hp]
    | succ j =>
      rw [List.take_succ_cons] at h
      unfold eachR at h ⊢
      cases hx : f x with
      | error e => rw [hx] at h; cases h
      | ok q =>
        rw [hx] at h
        dsimp only at h ⊢
        cases hl : eachR f (l.take j) with
        | error e => rw [hl] at h; cases h
        | ok qs =>
          rw [ih hy hl]
structure Qy where
  tabs : List Int
  begs : List Int
  width : Int
  wh : List Nd
  grp : List Int
  gr : Bool
  items : List Nd
  ord : List (Int × Bool)
  lim : Int
def sortL (p : Int × Bool) : List Value := [.int .i64 p.1, .bool p.2]
@[reducible] def qyV (q : Qy) (tA : Option Addr) (tc : Nat) (bA : Option Addr) (bc : Nat) (wA : Option Addr) (wn wc : Nat) (gA : Option Addr) (gc : Nat) (iA : Option Addr) (i_n ic : Nat) (oA : Option Addr) (oc : Nat) : Value := .agg #[.slice tA q.tabs.length tc, .slice bA q.begs.length bc, .int .i64 q.width, .slice wA wn wc, .slice gA q.grp.length gc, .bool q.gr, .slice iA i_n ic, .slice oA q.ord.length oc, .int .i64 q.lim]
def QyAt (ok : Nat → Prop) (n : Nat) (W : World) (q : Qy) (v : Value) : Prop := ∃ (tA : Option Addr) (tc : Nat) (bA : Option Addr) (bc : Nat) (wA : Option Addr) (wc : Nat) (wvs : List (List Value)) (gA : Option Addr) (gc : Nat) (iA : Option Addr) (ic : Nat) (ivs : List (List Value)) (oA : Option Addr) (oc : Nat),
  v = qyV q tA tc bA bc wA wvs.length wc gA gc iA ivs.length ic oA oc ∧ Setl ok W 1 tA (q.tabs.map intL) ∧ Setl ok W 1 bA (q.begs.map intL) ∧ Setl ok W 10 wA wvs ∧ NdsAt clP ok W n wvs q.wh ∧ Setl ok W 1 gA (q.grp.map intL) ∧ Setl ok W 10 iA ivs ∧ NdsAt clP ok W n ivs q.items ∧ Setl ok W 2 oA (q.ord.map sortL)
theorem QyAt.keep {ok : Nat → Prop} {n : Nat} {W W' : World} {q : Qy} {v : Value} (h : QyAt ok n W q v) (hB : Below W.heap.size W W') : QyAt ok n W' q v := by
  obtain ⟨tA, tc, bA, bc, wA, wc, wvs, gA, gc, iA, ic, ivs, oA, oc, h1, h2, h3, h4, h5, h6, h7, h8, h9⟩ := h
  exact ⟨tA, tc, bA, bc, wA, wc, wvs, gA, gc, iA, ic, ivs, oA, oc, h1, h2.keep hB, h3.keep hB, h4.keep hB, h5.keep hB, h6.keep hB, h7.keep hB, h8.keep hB, h9.keep hB⟩
theorem QyAt.grown {ok : Nat → Prop} {n : Nat} {W W' : World} {q : Qy} {v : Value} (h : QyAt ok n W q v) {r : Option Nat} (hg : W.grownBy W' r) (hr : ∀ b, ok b → some b ≠ r) : QyAt ok n W' q v := by
  obtain ⟨tA, tc, bA, bc, wA, wc, wvs, gA, gc, iA, ic, ivs, oA, oc, h1, h2, h3, h4, h5, h6, h7, h8, h9⟩ := h
  exact ⟨tA, tc, bA, bc, wA, wc, wvs, gA, gc, iA, ic, ivs, oA, oc, h1, h2.grown hg hr, h3.grown hg hr, h4.grown hg hr, h5.grown hg hr, h6.grown hg hr, h7.grown hg hr, h8.grown hg hr, h9.grown hg hr⟩
theorem QyAt.mono {ok ok' : Nat → Prop} {n : Nat} {W : World} {q : Qy} {v : Value} (h : QyAt ok n W q v) (hk : ∀ b, ok b → b < W.heap.size → ok' b) : QyAt ok' n W q v := by
  obtain ⟨tA, tc, bA, bc, wA, wc, wvs, gA, gc, iA, ic, ivs, oA, oc, h1, h2, h3, h4, h5, h6, h7, h8, h9⟩ := h
  exact ⟨tA, tc, bA, bc, wA, wc, wvs, gA, gc, iA, ic, ivs, oA, oc, h1, h2.mono hk, h3.mono hk, h4.mono hk, h5.mono hk, h6.mono hk, h7.mono hk, h8.mono hk, h9.mono hk⟩
def ChooseO (n : Nat) (w : World) (r : Except Int Qy) (e : Ending) (w' : World) : Prop := Below w.heap.size w w' ∧ match r with
  | .ok q => ∃ v, e = .returned v ∧ QyAt (fun b => w.heap.size ≤ b) n w' q v
  | .error er => e = .panicked [{ v := .iface 49 (.int .i64 er), recovered := false }]
def RowsOk (w : World) (rows : List Row) : Prop := ∀ r ∈ rows, (ColsAt w r.tab.ca r.cols ∧ r.tab.cn = r.cols.length ∧ r.cols.length ≤ r.tab.cc ∧ (r.tab.ca = none → r.tab.cc = 0)) ∧ 0 ≤ r.beg ∧ r.beg ≤ 100000 ∧ r.cols.length ≤ 100000
theorem sc_of {n : Nat} {sa ta ba : Option Addr} {rows : List Row} {tA : Option Addr} {tl : List Int} {bA : Option Addr} {wA : Option Addr} {wcs wvs : List (List Value)} {wh : List Nd} {gA : Option Addr} {gl : List Int} {iA : Option Addr} {ics ivs : List (List Value)} {il : List Nd} {ok : Nat → Prop} {w W : World} (h : Fq n sa ta ba rows tA tl bA wA wcs wvs wh gA gl iA ics ivs il ok W) (hB : Below w.heap.size w W) (hR : RowsOk w rows) (c1 c2 c3 : Nat) : ScAt W ⟨sa, c1, ta, c2, ba, c3, rows⟩ := by
  refine ⟨?_, ⟨?_, fun p hp => ?_⟩, ints_of ?_, fun r hr => (hR r hr).2⟩
  · have := h.strs.1
    show CellsAt W 1 sa ((rows.map Row.nm).map fun s => [.string s])
    rw [List.map_map]
    exact this
  · have := h.tabs.1
    show CellsAt W 5 ta (((rows.map fun r => (r.tab, r.cols)).map Prod.fst).map tabL)
    rw [List.map_map, List.map_map]
    exact this
  · obtain ⟨r, hr, rfl⟩ := List.mem_map.1 hp
    have := (hR r hr).1
    exact ⟨CellsAt.keep hB this.1, this.2⟩
  · have := h.begs.1
    show CellsAt W 1 ba ((rows.map Row.beg).map intL)
    rw [List.map_map]
    exact this
theorem Setl.ints {ok : Nat → Prop} {W : World} {A : Option Addr} {l : List Int} (h : Setl ok W 1 A (l.map intL)) : IntsAt W A l := ints_of h.1
def dropC : Nat → Code → Code
  | 0, c => c
  | k + 1, .seq _ b => dropC k b
  | _, c => c
noncomputable def chC (k : Nat) : Code := dropC k (Tryz.f22.body.getD .skip)
set_option maxRecDepth 100000 in
theorem open288 {a : Act} (h : a.tmps.size = 288) : ∃ u : Nat → Value, a.tmps = #[u 0, u 1, u 2, u 3, u 4, u 5, u 6, u 7, u 8, u 9, u 10, u 11, u 12, u 13, u 14, u 15, u 16, u 17, u 18, u 19, u 20, u 21, u 22, u 23, u 24, u 25, u 26, u 27, u 28, u 29, u 30, u 31, u 32, u 33, u 34, u 35, u 36, u 37, u 38, u 39, u 40, u 41, u 42, u 43, u 44, u 45, u 46, u 47, u 48, u 49, u 50, u 51, u 52, u 53, u 54, u 55, u 56, u 57, u 58, u 59, u 60, u 61, u 62, u 63, u 64, u 65, u 66, u 67, u 68, u 69, u 70, u 71, u 72, u 73, u 74, u 75, u 76, u 77, u 78, u 79, u 80, u 81, u 82, u 83, u 84, u 85, u 86, u 87, u 88, u 89, u 90, u 91, u 92, u 93, u 94, u 95, u 96, u 97, u 98, u 99, u 100, u 101, u 102, u 103, u 104, u 105, u 106, u 107, u 108, u 109, u 110, u 111, u 112, u 113, u 114, u 115, u 116, u 117, u 118, u 119, u 120, u 121, u 122, u 123, u 124, u 125, u 126, u 127, u 128, u 129, u 130, u 131, u 132, u 133, u 134, u 135, u 136, u 137, u 138, u 139, u 140, u 141, u 142, u 143, u 144, u 145, u 146, u 147, u 148, u 149, u 150, u 151, u 152, u 153, u 154, u 155, u 156, u 157, u 158, u 159, u 160, u 161, u 162, u 163, u 164, u 165, u 166, u 167, u 168, u 169, u 170, u 171, u 172, u 173, u 174, u 175, u 176, u 177, u 178, u 179, u 180, u 181, u 182, u 183, u 184, u 185, u 186, u 187, u 188, u 189, u 190, u 191, u 192, u 193, u 194, u 195, u 196, u 197, u 198, u 199, u 200, u 201, u 202, u 203, u 204, u 205, u 206, u 207, u 208, u 209, u 210, u 211, u 212, u 213, u 214, u 215, u 216, u 217, u 218, u 219, u 220, u 221, u 222, u 223, u 224, u 225, u 226, u 227, u 228, u 229, u 230, u 231, u 232, u 233, u 234, u 235, u 236, u 237, u 238, u 239, u 240, u 241, u 242, u 243, u 244, u 245, u 246, u 247, u 248, u 249, u 250, u 251, u 252, u 253, u 254, u 255, u 256, u 257, u 258, u 259, u 260, u 261, u 262, u 263, u 264, u 265, u 266, u 267, u 268, u 269, u 270, u 271, u 272, u 273, u 274, u 275, u 276, u 277, u 278, u 279, u 280, u 281, u 282, u 283, u 284, u 285, u 286, u 287] ∧ ∀ t, t < 288 → a.tmps.getD t undef = u t := by
  refine ⟨fun t => a.tmps.getD t undef, ?_, fun t _ => rfl⟩
  have e : a.tmps = ((List.range 288).map fun t => a.tmps.getD t undef).toArray := by
    apply Array.ext
    · simp [h]
    · intro i h1 h2
      simp [h1]
  exact e
structure Slots (w : World) (a : Act) : Prop where
  size : a.tmps.size = 288
  df : a.defers = []
  s2 : a.tmps.getD 2 undef = .pointer (some ⟨w.heap.size, 0, none⟩)
  s3 : a.tmps.getD 3 undef = .pointer (some ⟨w.heap.size + 1, 0, none⟩)
  s4 : a.tmps.getD 4 undef = .pointer (some ⟨w.heap.size + 2, 0, none⟩)
  s5 : a.tmps.getD 5 undef = .pointer (some ⟨w.heap.size + 3, 0, none⟩)
  s6 : a.tmps.getD 6 undef = .pointer (some ⟨w.heap.size + 4, 0, none⟩)
end Go.Proofs.YthdmfaepjemopaaGreatDoor
