/- The walk of a scope's args. What stands while a scope's expr binds: its boxes, and what its parts are bound to. The walk of a scope's expr at a sign ahead. The walk of a scope's expr at IS NULL. -/
import Derived.Test.YthdmfaepjemopaaGreatDoorQAG
import Derived.Test.YthdmfaepjemopaaGreatDoorQAL
namespace Go.Proofs.YthdmfaepjemopaaGreatDoor
open Go.RowKit

theorem bind_snoc {f : Ex → Except Int Nd} {l : List Ex} {j : Nat} {y : Ex} {ps : List Nd} {p : Nd} (hy : l[j]? = some y) (h : bindArgs f (l.take j) = .ok ps) (hp : f y = .ok p) : bindArgs f (l.take (j + 1)) = .ok (ps ++ [p]) := by
  induction l generalizing j ps with
  | nil => cases hy
  | cons x l ih =>
    cases j with
    | zero =>
      cases hy
      rw [List.take_zero] at h
      cases h
      show bindArgs f [y] = _
      unfold bindArgs
      rw [hp]
      rfl
    | succ j =>
      rw [List.take_succ_cons] at h ⊢
      unfold bindArgs at h ⊢
      cases hx : f x with
      | error e => rw [hx] at h; cases h
      | ok q =>
        rw [hx] at h
        dsimp only at h ⊢
        cases hl : bindArgs f (l.take j) with
        | error e => rw [hl] at h; cases h
        | ok qs =>
          rw [hl] at h
          cases h
          rw [ih hy hl]
          rfl
theorem bind_fail {f : Ex → Except Int Nd} {l : List Ex} {j : Nat} {y : Ex} {ps : List Nd} {e : Int} (hy : l[j]? = some y) (h : bindArgs f (l.take j) = .ok ps) (hp : f y = .error e) : bindArgs f l = .error e := by
  induction l generalizing j ps with
  | nil => cases hy
  | cons x l ih =>
    cases j with
    | zero =>
      cases hy
      unfold bindArgs
      rw [hp]
    | succ j =>
      rw [List.take_succ_cons] at h
      unfold bindArgs at h ⊢
      cases hx : f x with
      | error e => rw [hx] at h; cases h
      | ok q =>
        rw [hx] at h
        dsimp only at h ⊢
        cases hl : bindArgs f (l.take j) with
        | error e => rw [hl] at h; cases h
        | ok qs =>
          rw [ih hy hl]
theorem ex_at {w : World} {A : Option Addr} {l : List Ex} (h : CellsAt w 10 A (l.map exL)) {k : Nat} {y : Ex} (hk : l[k]? = some y) : ∃ b off, A = some ⟨b, off, none⟩ ∧ b < w.heap.size ∧ ∀ (i : Nat) (v : Value), (exL y)[i]? = some v → w.cell? ⟨b, off + k * 10 + i, none⟩ = some v := by
  have hk2 : (l.map exL)[k]? = some (exL y) := by rw [List.getElem?_map, hk]; rfl
  rcases h.2 with h0 | ⟨b, off, h1, h2, h3⟩
  · rw [h0] at hk2; cases hk2
  · exact ⟨b, off, h1, h2, (h3 k _ hk2).2⟩
structure AR (cl : Vl → Vl) (n : Nat) (w : World) (r0 r1 : Array Value) (v : Value) (vs : List (List Value)) (ps : List Nd) (W : World) : Prop where
  below : Below w.heap.size w W
  sc : W.heap[w.heap.size]? = some (.cells r0 86)
  ex : W.heap[w.heap.size + 1]? = some (.cells r1 41)
  own : W.ownsRow (w.heap.size + 2) 54 10 v vs.length vs.flatten
  nds : NdsAt cl (fun b => w.heap.size ≤ b ∧ v.ownBlock ≠ some b) W n vs ps
  lens : ∀ x ∈ vs, x.length = 10
theorem AR.keep {cl : Vl → Vl} {n : Nat} {w : World} {r0 r1 : Array Value} {v : Value} {vs : List (List Value)} {ps : List Nd} {W W' : World} (h : AR cl n w r0 r1 v vs ps W) (hB : Below W.heap.size W W') : AR cl n w r0 r1 v vs ps W' :=
  ⟨h.below.trans (hB.mono h.below.size), (hB.block _ (heap_lt h.sc)).trans h.sc, (hB.block _ (heap_lt h.ex)).trans h.ex, own_kept h.own hB (Nat.le_refl _), h.nds.keep hB, h.lens⟩
theorem own_base {w : World} {base e K n : Nat} {v : Value} {xs : List Value} (h : w.ownsRow base e K v n xs) : ∀ b, v.ownBlock = some b → base ≤ b ∧ b < w.heap.size := by
  intro b hb
  rcases h.2 with ⟨e1, _⟩ | ⟨g, cap, cur, e1, e2, e3, _⟩
  · rw [e1] at hb; cases hb
  · rw [e1] at hb
    cases hb
    exact ⟨e2, heap_lt e3⟩
theorem AR.more {cl : Vl → Vl} {n : Nat} {w : World} {r0 r1 : Array Value} {v : Value} {vs : List (List Value)} {ps : List Nd} {W W1 W2 : World} {x : List Value} {p : Nd} (h : AR cl n w r0 r1 v vs ps W) (hB : Below W.heap.size W W1) (hx : NdAt cl (W.heap.size ≤ ·) W1 n x p)
    {v' : Value} (hown : W2.ownsRow (w.heap.size + 2) 54 10 v' (vs.length + 1) (vs.flatten ++ x)) (hg : W1.grownBy W2 v.ownBlock) (hv : v'.ownBlock = v.ownBlock ∨ v'.ownBlock = some W1.heap.size) : AR cl n w r0 r1 v' (vs ++ [x]) (ps ++ [p]) W2 := by
  have h1 := h.keep hB
  have hb := own_base h1.own
  have hb0 := own_base h.own
  have hsz := hB.size
  have hwz := h.below.size
  refine ⟨h1.below.grown hg (by omega) (fun b e => by have := (hb b e).1; omega), (hg.block _ (heap_lt h1.sc) (fun e => by have := (hb _ e.symm).1; omega)).trans h1.sc, (hg.block _ (heap_lt h1.ex) (fun e => by have := (hb _ e.symm).1; omega)).trans h1.ex, ?_, ?_, ?_⟩
  · rw [List.length_append, List.flatten_append]
    simpa using hown
  · have ok' : ∀ b, b < W1.heap.size → v.ownBlock ≠ some b → v'.ownBlock ≠ some b := fun b h1 h2 e => by
      rcases hv with hv | hv
      · rw [hv] at e; exact h2 e
      · rw [hv] at e; cases e; omega
    have hold : NdsAt cl (fun b => w.heap.size ≤ b ∧ v'.ownBlock ≠ some b) W2 n vs ps := by
      have g1 : NdsAt cl (fun b => (w.heap.size ≤ b ∧ v.ownBlock ≠ some b) ∧ b < W1.heap.size) W1 n vs ps := h1.nds.mono fun b hk hl => ⟨hk, hl⟩
      have g2 := g1.grown hg (fun b hk e => hk.1.2 e.symm)
      exact g2.mono fun b hk _ => ⟨hk.1.1, ok' b hk.2 hk.1.2⟩
    have hnew : NdAt cl (fun b => w.heap.size ≤ b ∧ v'.ownBlock ≠ some b) W2 n x p := by
      have g1 : NdAt cl (fun b => W.heap.size ≤ b ∧ b < W1.heap.size) W1 n x p := hx.mono fun b hk hl => ⟨hk, hl⟩
      have hne : ∀ b, W.heap.size ≤ b → v.ownBlock ≠ some b := fun b hk e => by have := (hb0 b e).2; omega
      have g2 := g1.grown hg (fun b hk e => hne b hk.1 e.symm)
      exact g2.mono fun b hk _ => ⟨by omega, ok' b hk.2 (hne b hk.1)⟩
    refine ⟨by rw [List.length_append, List.length_append, hold.1]; rfl, fun i y q hy hq => ?_⟩
    by_cases hi : i < vs.length
    · rw [List.getElem?_append_left hi] at hy
      rw [List.getElem?_append_left (by rw [← hold.1]; exact hi)] at hq
      exact hold.2 i y q hy hq
    · rw [List.getElem?_append_right (by omega)] at hy
      rw [List.getElem?_append_right (by rw [← hold.1]; omega), ← hold.1] at hq
      have hi0 : i - vs.length = 0 := by
        have := (List.getElem?_eq_some_iff.1 hy).1
        simpa using this
      rw [hi0] at hy hq
      cases hy
      cases hq
      exact hnew
  · intro y hy
    rw [List.mem_append, List.mem_singleton] at hy
    rcases hy with hy | rfl
    · exact h.lens y hy
    · exact hx.len
set_option maxRecDepth 100000 in
set_option maxHeartbeats 16000000 in
theorem args_any (n : Nat) (s : Sc) (ins fol : Bool) (x : Ex) (m : Nat) (f : Ex → Except Int Nd) (w : World) (hx : CellsAt w 10 x.A (x.args.map exL)) (hl : x.args.length ≤ 1000)
    (HEX : ∀ y ∈ x.args, ∀ W, Below w.heap.size w W → Calls Tryz.prog 25 #[scV s ins fol, exV y] W (ExprO n W (f y))) :
    Calls Tryz.prog 41 #[scV s ins fol, exV x, .int .i64 m] w (ArgsO n w (if x.args.length = m then bindArgs f x.args else .error 7)) := by
  obtain ⟨R, hR⟩ : ∃ R, R = if x.args.length = m then bindArgs f x.args else .error 7 := ⟨_, rfl⟩
  rw [← hR]
  have HR := Lib.hid (show (x.args.length = m → R = bindArgs f x.args) ∧ (x.args.length ≠ m → R = .error 7) from ⟨fun h => by rw [hR, if_pos h], fun h => by rw [hR, if_neg h]⟩)
  clear hR
  obtain ⟨k, op, ⟨lk, ln, lf, ls⟩, tn, nm, ng, xa, xc, xs⟩ := x
  obtain ⟨sa, sc, ta, tc, ba, bc, rows⟩ := s
  unfold scV exV
  dsimp only [Ex.kind, Ex.op, Ex.lit, Ex.table, Ex.name, Ex.neg, Ex.A, Ex.c, Ex.args] at hx hl HEX ⊢
  have HR := Lib.hid (show (xs.length = m → R = bindArgs f xs) ∧ (xs.length ≠ m → R = .error 7) from HR.out)
  have HCY := fun w => check_yes 7 w
  have HCN := fun w => check_no 7 w
  have HX := Lib.hid hx
  have HE := Lib.hid HEX
  obtain ⟨q, hq⟩ : ∃ q, q = xs.length := ⟨_, rfl⟩
  obtain ⟨rn, hrn⟩ : ∃ q, q = rows.length := ⟨_, rfl⟩
  have HQ := Lib.hid hq
  unfold scV at HE
  dsimp only at HE
  rw [← hrn] at HE ⊢
  rw [← hq] at hl ⊢
  clear hx HEX hq hrn
  by_cases hm : q = m
  · subst hm
    have HRB := Lib.hid (HR.out.1 HQ.out.symm)
    clear HR
    have qq : ((q : Int) == (q : Int)) = true := beq_self_eq_true _
    obtain ⟨r1, hr1⟩ : ∃ r : Array Value, r = #[.int .i64 k, .string op, .int .i64 lk, .int .i64 ln, .float .f64 lf, .string ls, .string tn, .string nm, .bool ng, .slice xa q xc] := ⟨_, rfl⟩
    obtain ⟨r0, hr0⟩ : ∃ r : Array Value, r = #[.slice sa rn sc, .slice ta rn tc, .slice ba rn bc, .bool ins, .bool fol] := ⟨_, rfl⟩
    have HR0 := Lib.hid hr0
    have HST := Lib.hid (show AR clP n w r0 r1 (.slice none 0 0) [] [] ((w.alloc (.cells #[.slice sa rn sc, .slice ta rn tc, .slice ba rn bc, .bool ins, .bool fol] 86)).alloc (.cells #[.int .i64 k, .string op, .int .i64 lk, .int .i64 ln, .float .f64 lf, .string ls, .string tn, .string nm, .bool ng, .slice xa q xc] 41)) from by
      rw [hr0, hr1]
      refine ⟨(below1 w _).alloc (by simp) _, ?_, alloc_at2 _ _ _ (by simp), World.ownsRow_nil _ _ _ _, ⟨rfl, fun i x q h => by cases h⟩, fun x h => (List.not_mem_nil h).elim⟩
      rw [heap_alloc_old _ _ (by simp)]; exact heap_alloc_new w _)
    clear hr0 hr1
    have sf := store_float
    go_enter Tryz.func41, Tryz.ntmps41
    go_wp2_with (first
      | (go_at_call 24; (with_reducible refine (HCY _).mono ?_); rintro e w' ⟨rfl, rfl⟩)
      | fail)
    go_loopw [7, 19] (fun v i wr => ∃ (j : Nat) (vs : List (List Value)) (ps : List Nd), j ≤ q ∧ i = .int .i64 j ∧ vs.length = j ∧ Hid (bindArgs f (xs.take j) = .ok ps) ∧ Hid (AR clP n w r0 r1 v vs ps wr)) (fun _ i _ => q - (intOf i).toNat)
    case atStart => exact ⟨0, [], [], Nat.zero_le _, rfl, rfl, Lib.hid rfl, HST⟩
    case round =>
      clear HST
      obtain ⟨j, vs, ps, hj, rfl, hvl, HBA, HA⟩ := hrel
      obtain ⟨wo, rfl⟩ : ∃ wo : World, wo = wr := ⟨_, rfl⟩
      by_cases hjq : j < q
      · have hjn : ((j : Int) < (q : Int)) = True := eq_true (by omega)
        obtain ⟨y, hy⟩ : ∃ y, xs[j]? = some y := ⟨_, List.getElem?_eq_getElem (by have := HQ.out; omega)⟩
        obtain ⟨eb, eo, rfl, heb, hyc⟩ := ex_at HX.out hy
        have t0 : wo.cell? ⟨eb, eo + j * 10, none⟩ = some (.int .i64 y.kind) := cell_kept (hyc 0 _ rfl) HA.out.below
        have t1 := cell_kept (hyc 1 _ rfl) HA.out.below
        have t2 := cell_kept (hyc 2 _ rfl) HA.out.below
        have t3 := cell_kept (hyc 3 _ rfl) HA.out.below
        have t4 := cell_kept (hyc 4 _ rfl) HA.out.below
        have t5 := cell_kept (hyc 5 _ rfl) HA.out.below
        have t6 := cell_kept (hyc 6 _ rfl) HA.out.below
        have t7 := cell_kept (hyc 7 _ rfl) HA.out.below
        have t8 := cell_kept (hyc 8 _ rfl) HA.out.below
        have t9 := cell_kept (hyc 9 _ rfl) HA.out.below
        have hsc := HA.out.sc
        rw [HR0.out] at hsc
        have s0 := cell_of_row _ _ 0 _ _ _ hsc
        have s1 := cell_of_row _ _ 1 _ _ _ hsc
        have s2 := cell_of_row _ _ 2 _ _ _ hsc
        have s3 := cell_of_row _ _ 3 _ _ _ hsc
        have s4 := cell_of_row _ _ 4 _ _ _ hsc
        have hzs := heap_lt hsc
        have HY := Lib.hid (show ∀ O, Calls Tryz.prog 25 #[.agg #[.slice sa rn sc, .slice ta rn tc, .slice ba rn bc, .bool ins, .bool fol], exV y] (wo.alloc O) (ExprO n (wo.alloc O) (f y)) from fun O => HE.out y (List.mem_of_getElem? hy) _ (HA.out.below.trans ((below1 wo O).mono HA.out.below.size)))
        have HYJ := Lib.hid hy
        have HSZ := Lib.hid HA.out.below.size
        clear hyc hsc hy
        cases hf : f y with
        | error er =>
          obtain rfl : R = .error er := HRB.out.trans (bind_fail HYJ.out HBA.out hf)
          rw [hf] at HY
          clear hf
          go_wp2_with (first
            | (go_at_call 25; (with_reducible refine (HY.out _).mono ?_); rintro e w5 ⟨hB5, rfl⟩)
            | fail)
          exact ⟨rfl, HA.out.below.trans (((below1 wo _).trans (hB5.mono (below1 wo _).size)).mono HSZ.out), rfl⟩
        | ok p =>
          have HR := Lib.hid (bind_snoc HYJ.out HBA.out hf)
          rw [hf] at HY
          clear hf
          go_wp2_with (first
            | (go_at_call 25; (with_reducible refine (HY.out _).mono ?_); rintro e w5 ⟨hB5, A5, c5, q5, rfl, hN5⟩
               have HB5 := fun O => Lib.hid (show Below wo.heap.size wo (w5.alloc O) from ((below1 wo _).trans (hB5.mono (below1 wo _).size)).alloc (Nat.le_trans (below1 wo _).size hB5.size) O)
               have HN5 := fun O => Lib.hid (show NdAt clP (wo.heap.size ≤ ·) (w5.alloc O) n (ndL p (clP p.lit) A5 q5 c5) p from (hN5.keep (below1 w5 O)).mono fun b h1 _ => Nat.le_trans (below1 wo _).size h1)
               have HZ5 := Lib.hid (show wo.heap.size ≤ w5.heap.size from Nat.le_trans (below1 wo _).size hB5.size)
               clear hB5 hN5)
            | (at_builtin; refine list_one 45 54 10 112 nodeZ Tryz.underlying45 info54 rfl (by omega) (by omega) _ rfl _ _ rfl (w.heap.size + 2) _ vs.length vs.flatten rfl (HA.out.keep (HB5 _).out).own _ 1 (ndL p (clP p.lit) A5 q5 c5) rfl rfl rfl (heap_alloc_new w5 _) ?c3 ?c4 ?_)
            | fail)
          case c3 => omega
          case c4 => have := HSZ.out; have := HZ5.out; have := heap_lt HA.out.ex; simp; omega
          intro v8 w8 hown hgr hv8
          have HM := Lib.hid (HA.out.more (HB5 _).out (HN5 _).out (by rw [hvl]; exact hown) hgr (by rw [World.size_alloc]; exact hv8))
          clear hown hgr hv8
          go_wp2_with fail
          go_roundw
          case rel => exact ⟨j + 1, vs ++ [ndL p (clP p.lit) A5 q5 c5], ps ++ [p], by omega, by go_num, by rw [List.length_append, hvl]; rfl, Lib.hid HR, HM⟩
          case measure => simp [intOf] <;> omega
      · obtain rfl : j = q := by omega
        have hjn : ((j : Int) < (j : Int)) = False := eq_false (by omega)
        go_wp2_with fail
        have HT := HBA.out
        rw [List.take_of_length_le (by have := HQ.out; omega)] at HT
        obtain rfl : R = .ok ps := HRB.out.trans HT
        obtain ⟨A, c, hv, hc, hC, hA, _⟩ := own_cells HA.out.own HA.out.lens rfl
        subst hv
        go_ret
        exact ⟨HA.out.below, A, c, vs, rfl, hC, fun a ha => by have := (hA a ha).1; omega, HA.out.nds.mono fun b hb _ => hb.1⟩
  · obtain rfl : R = .error 7 := HR.out.2 (by have := HQ.out; omega)
    have qq : ((q : Int) == (m : Int)) = false := by rw [beq_eq_false_iff_ne]; omega
    have sf := store_float
    go_enter Tryz.func41, Tryz.ntmps41
    go_wp2_with (first
      | (go_at_call 24; (with_reducible refine (HCN _).mono ?_); rintro e w' ⟨rfl, rfl⟩)
      | fail)
    exact ⟨rfl, by go_grown, rfl⟩
end Go.Proofs.YthdmfaepjemopaaGreatDoor
namespace Go.Proofs.YthdmfaepjemopaaGreatDoor
open Go.RowKit

theorem ints_at (W : World) (b : Nat) (l : List Int) (hl : l.length ≤ 1000) (h : W.heap.size = b) : IntsAt (W.alloc (.cells (l.map (Value.int .i64)).toArray 3)) (some ⟨b, 0, none⟩) l := by
  subst h
  refine ⟨by unfold maxLen; omega, Or.inr ⟨W.heap.size, 0, rfl, by simp, fun j z hz => ?_⟩⟩
  rw [cell_of_row _ _ _ _ _ _ (heap_alloc_new W _), Nat.zero_add, List.getElem?_toArray, List.getElem?_map, hz]
  rfl
theorem strs_at (W : World) (b : Nat) (l : List ByteArray) (hl : l.length ≤ 1000) (h : W.heap.size = b) : StrsAt (W.alloc (.cells (l.map Value.string).toArray 9)) (some ⟨b, 0, none⟩) l := by
  subst h
  refine ⟨by rw [List.length_map]; unfold maxLen; omega, Or.inr ⟨W.heap.size, 0, rfl, by simp, fun j x hx => ?_⟩⟩
  rw [List.getElem?_map] at hx
  cases hy : l[j]? with
  | none => rw [hy] at hx; cases hx
  | some y =>
    rw [hy] at hx
    cases hx
    refine ⟨rfl, fun i v hv => ?_⟩
    have hi : i = 0 := by have := (List.getElem?_eq_some_iff.1 hv).1; simpa using this
    subst hi
    cases hv
    rw [cell_of_row _ _ _ _ _ _ (heap_alloc_new W _), Nat.zero_add, Nat.mul_one, Nat.add_zero, List.getElem?_toArray, List.getElem?_map, hy]
    rfl
theorem set_grown (W : World) (b i : Nat) (v : Value) : W.grownBy (W.setCell ⟨b, i, none⟩ v) (some b) :=
  ⟨rfl, rfl, rfl, by simp [World.setCell], fun k _ hk => heap_setFar v (fun e => hk (by rw [e]))⟩
structure BK (w : World) (sr xr nr : Array Value) (W : World) : Prop where
  below : Below w.heap.size w W
  sc : W.heap[w.heap.size]? = some (.cells sr 86)
  ex : W.heap[w.heap.size + 1]? = some (.cells xr 41)
  ans : W.heap[w.heap.size + 2]? = some (.cells (ndR 0 0 0) 54)
  nd : W.heap[w.heap.size + 3]? = some (.cells nr 54)
theorem BK.start (w : World) (sr xr nr : Array Value) : BK w sr xr nr ((((w.alloc (.cells sr 86)).alloc (.cells xr 41)).alloc (.cells (ndR 0 0 0) 54)).alloc (.cells nr 54)) := by
  refine ⟨(((below1 w _).alloc (by simp) _).alloc (by simp <;> omega) _).alloc (by simp <;> omega) _, ?_, ?_, ?_, ?_⟩
  · rw [heap_alloc_old _ _ (by simp <;> omega), heap_alloc_old _ _ (by simp <;> omega), heap_alloc_old _ _ (by simp)]; exact heap_alloc_new w _
  · rw [heap_alloc_old _ _ (by simp <;> omega), heap_alloc_old _ _ (by simp)]; exact alloc_at2 _ _ _ (by simp)
  · rw [heap_alloc_old _ _ (by simp)]; exact alloc_at2 _ _ _ (by simp)
  · exact alloc_at2 _ _ _ (by simp)
theorem BK.keep {w : World} {sr xr nr : Array Value} {W W' : World} (h : BK w sr xr nr W) (hB : Below W.heap.size W W') : BK w sr xr nr W' :=
  ⟨h.below.trans (hB.mono h.below.size), (hB.block _ (heap_lt h.sc)).trans h.sc, (hB.block _ (heap_lt h.ex)).trans h.ex, (hB.block _ (heap_lt h.ans)).trans h.ans, (hB.block _ (heap_lt h.nd)).trans h.nd⟩
theorem BK.set {w : World} {sr xr nr : Array Value} {W : World} (h : BK w sr xr nr W) (i : Nat) (v : Value) : BK w sr xr (nr.setIfInBounds i v) (W.setCell ⟨w.heap.size + 3, i, none⟩ v) := by
  refine ⟨h.below.setCell (p := ⟨w.heap.size + 3, i, none⟩) (Nat.le_add_right _ 3) _, (heap_setFar _ (by omega)).trans h.sc, (heap_setFar _ (by omega)).trans h.ex, (heap_setFar _ (by omega)).trans h.ans, ?_⟩
  rw [setCell_eq_setRow W _ i _ 54 _ _ h.nd]
  exact setRow_heap W _ _ _ 54 _ h.nd
theorem BK.setS {w : World} {sr xr nr : Array Value} {W : World} (h : BK w sr xr nr W) (i : Nat) (v : Value) : BK w (sr.setIfInBounds i v) xr nr (W.setCell ⟨w.heap.size, i, none⟩ v) := by
  refine ⟨h.below.setCell (p := ⟨w.heap.size, i, none⟩) (Nat.le_refl _) _, ?_, (heap_setFar _ (by omega)).trans h.ex, (heap_setFar _ (by omega)).trans h.ans, (heap_setFar _ (by omega)).trans h.nd⟩
  rw [setCell_eq_setRow W _ i _ 86 _ _ h.sc]
  exact setRow_heap W _ _ _ 86 _ h.sc
theorem row5 {W : World} {b : Nat} {v0 v1 v2 v3 v4 : Value} {ty : TypeId} {fr : Nat × Nat} (h : W.heap[b]? = some (.cells #[v0, v1, v2, v3, v4] ty fr)) : W.cell? ⟨b, 0, none⟩ = some v0 ∧ W.cell? ⟨b, 1, none⟩ = some v1 ∧ W.cell? ⟨b, 2, none⟩ = some v2 ∧ W.cell? ⟨b, 3, none⟩ = some v3 ∧ W.cell? ⟨b, 4, none⟩ = some v4 :=
  ⟨cell_of_row _ _ 0 _ _ _ h, cell_of_row _ _ 1 _ _ _ h, cell_of_row _ _ 2 _ _ _ h, cell_of_row _ _ 3 _ _ _ h, cell_of_row _ _ 4 _ _ _ h⟩
structure EK (n : Nat) (w : World) (sr xr nr : Array Value) (A : Option Addr) (vs : List (List Value)) (ps : List Nd) (W : World) : Prop where
  bk : BK w sr xr nr W
  cells : CellsAt W 10 A vs
  far : vs ≠ [] → ∀ a, A = some a → w.heap.size + 4 ≤ a.block
  nds : NdsAt clP (w.heap.size + 4 ≤ ·) W n vs ps
theorem EK.of {n : Nat} {w : World} {sr xr nr : Array Value} {A : Option Addr} {vs : List (List Value)} {ps : List Nd} {W W' : World} (h : BK w sr xr nr W) (hB : Below W.heap.size W W') (hC : CellsAt W' 10 A vs) (hA : ∀ a, A = some a → W.heap.size ≤ a.block) (hN : NdsAt clP (W.heap.size ≤ ·) W' n vs ps) : EK n w sr xr nr A vs ps W' := by
  have hl := heap_lt h.nd
  exact ⟨h.keep hB, hC, fun _ a ha => by have := hA a ha; omega, hN.mono fun b hb _ => by omega⟩
theorem EK.keep {n : Nat} {w : World} {sr xr nr : Array Value} {A : Option Addr} {vs : List (List Value)} {ps : List Nd} {W W' : World} (h : EK n w sr xr nr A vs ps W) (hB : Below W.heap.size W W') : EK n w sr xr nr A vs ps W' :=
  ⟨h.bk.keep hB, CellsAt.keep hB h.cells, h.far, h.nds.keep hB⟩
theorem EK.set {n : Nat} {w : World} {sr xr nr : Array Value} {A : Option Addr} {vs : List (List Value)} {ps : List Nd} {W : World} (h : EK n w sr xr nr A vs ps W) (i : Nat) (v : Value) : EK n w sr xr (nr.setIfInBounds i v) A vs ps (W.setCell ⟨w.heap.size + 3, i, none⟩ v) :=
  ⟨h.bk.set i v, h.cells.grown (set_grown W _ i v) (fun hv a ha e => by have := h.far hv a ha; have := Option.some.inj e; omega), h.far, h.nds.grown (set_grown W _ i v) (fun b hb e => by have := Option.some.inj e; omega)⟩
theorem EK.addr {n : Nat} {w : World} {sr xr nr : Array Value} {A : Option Addr} {vs : List (List Value)} {ps : List Nd} {W : World} (h : EK n w sr xr nr A vs ps W) (hp : 0 < ps.length) : ∃ b o, A = some ⟨b, o, none⟩ := by
  have hl := h.nds.1
  rcases h.cells.2 with h0 | ⟨b, o, h1, _⟩
  · rw [h0] at hl; simp at hl; omega
  · exact ⟨b, o, h1⟩
theorem EK.tyA {n : Nat} {w : World} {sr xr nr : Array Value} {b o : Nat} {vs : List (List Value)} {ps : List Nd} {W : World} (h : EK n w sr xr nr (some ⟨b, o, none⟩) vs ps W) {i : Nat} {p : Nd} (hp : ps[i]? = some p) : W.cell? ⟨b, o + i * 10 + 8, none⟩ = some (.int .i64 p.ty) := by
  have hl := h.nds.1
  obtain ⟨x, hx⟩ : ∃ x, vs[i]? = some x := ⟨_, List.getElem?_eq_getElem (by have := (List.getElem?_eq_some_iff.1 hp).1; omega)⟩
  have hN := h.nds.2 i x p hx hp
  rcases h.cells.2 with h0 | ⟨b', o', h1, _, h3⟩
  · rw [h0] at hx; cases hx
  · cases h1
    refine (h3 i x hx).2 8 _ ?_
    cases n with
    | zero => exact hN.elim
    | succ n =>
      obtain ⟨_, _, _, e, _⟩ := hN
      rw [e]
      rfl
theorem CellsAt.block {w : World} {K : Nat} {A : Option Addr} {ls : List (List Value)} (h : CellsAt w K A ls) (hl : ls ≠ []) : ∀ a, A = some a → a.block < w.heap.size := by
  intro a ha
  rcases h.2 with h0 | ⟨b, off, h1, h2, _⟩
  · exact absurd h0 hl
  · rw [ha] at h1; cases h1; exact h2
theorem EK.done {n : Nat} {w : World} {sr xr nr : Array Value} {A : Option Addr} {vs : List (List Value)} {W : World} {p : Nd} (h : EK n w sr xr nr A vs p.args W) (c : Nat) (v0 v1 v2 v3 v4 v5 v6 v7 v8 v9 : Value) :
    Below w.heap.size w ((((((((((W.setCell ⟨w.heap.size + 2, 0, none⟩ v0).setCell ⟨w.heap.size + 2, 1, none⟩ v1).setCell ⟨w.heap.size + 2, 2, none⟩ v2).setCell ⟨w.heap.size + 2, 3, none⟩ v3).setCell ⟨w.heap.size + 2, 4, none⟩ v4).setCell ⟨w.heap.size + 2, 5, none⟩ v5).setCell ⟨w.heap.size + 2, 6, none⟩ v6).setCell ⟨w.heap.size + 2, 7, none⟩ v7).setCell ⟨w.heap.size + 2, 8, none⟩ v8).setCell ⟨w.heap.size + 2, 9, none⟩ v9) ∧
    NdAt clP (w.heap.size ≤ ·) ((((((((((W.setCell ⟨w.heap.size + 2, 0, none⟩ v0).setCell ⟨w.heap.size + 2, 1, none⟩ v1).setCell ⟨w.heap.size + 2, 2, none⟩ v2).setCell ⟨w.heap.size + 2, 3, none⟩ v3).setCell ⟨w.heap.size + 2, 4, none⟩ v4).setCell ⟨w.heap.size + 2, 5, none⟩ v5).setCell ⟨w.heap.size + 2, 6, none⟩ v6).setCell ⟨w.heap.size + 2, 7, none⟩ v7).setCell ⟨w.heap.size + 2, 8, none⟩ v8).setCell ⟨w.heap.size + 2, 9, none⟩ v9) (n + 1) (ndL p (clP p.lit) A vs.length c) p := by
  refine ⟨set10_below h.bk.below (Nat.le_add_right _ 2) _ _ _ _ _ _ _ _ _ _, A, c, vs, rfl, ?_, fun hv a ha => by have := h.far hv a ha; omega, h.nds.1, ?_⟩
  · have key : ∀ (V : World) (i : Nat) (v : Value), CellsAt V 10 A vs → CellsAt (V.setCell ⟨w.heap.size + 2, i, none⟩ v) 10 A vs := fun V i v hV => hV.grown (set_grown V _ i v) (fun hv a ha e => by have := h.far hv a ha; have := Option.some.inj e; omega)
    exact key _ _ _ (key _ _ _ (key _ _ _ (key _ _ _ (key _ _ _ (key _ _ _ (key _ _ _ (key _ _ _ (key _ _ _ (key _ _ _ h.cells)))))))))
  · have key : ∀ (V : World) (i : Nat) (v : Value), NdsAt clP (w.heap.size + 4 ≤ ·) V n vs p.args → NdsAt clP (w.heap.size + 4 ≤ ·) (V.setCell ⟨w.heap.size + 2, i, none⟩ v) n vs p.args := fun V i v hV => hV.grown (set_grown V _ i v) (fun b hb e => by have := Option.some.inj e; omega)
    have hN := key _ 9 v9 (key _ 8 v8 (key _ 7 v7 (key _ 6 v6 (key _ 5 v5 (key _ 4 v4 (key _ 3 v3 (key _ 2 v2 (key _ 1 v1 (key W 0 v0 h.nds)))))))))
    exact (hN.mono fun b hb _ => (by omega : w.heap.size ≤ b)).2
theorem argso_ok {n : Nat} {w : World} {ps : List Nd} {e : Ending} {w' : World} (h : ArgsO n w (.ok ps) e w') : ∃ (A : Option Addr) (c : Nat) (vs : List (List Value)), e = .returned (.slice A vs.length c) ∧ Below w.heap.size w w' ∧ CellsAt w' 10 A vs ∧ (∀ a, A = some a → w.heap.size ≤ a.block) ∧ NdsAt clP (w.heap.size ≤ ·) w' n vs ps := by
  obtain ⟨hB, A, c, vs, h1, h2, h3, h4⟩ := h
  exact ⟨A, c, vs, h1, hB, h2, h3, h4⟩
theorem argso_no {n : Nat} {w : World} {er : Int} {e : Ending} {w' : World} (h : ArgsO n w (.error er) e w') : e = .panicked [{ v := .iface 49 (.int .i64 er), recovered := false }] ∧ Below w.heap.size w w' := ⟨h.2, h.1⟩
theorem EK.leaf {n : Nat} {w : World} {sr xr nr : Array Value} {W : World} (h : BK w sr xr nr W) : EK n w sr xr nr none [] [] W :=
  ⟨h, CellsAt.nil_at _ _ _, fun h => absurd rfl h, ⟨rfl, fun i x q hx => by cases hx⟩⟩
theorem sub_done {n : Nat} {w : World} {sr xr nr : Array Value} {W w' : World} {p : Nd} {A : Option Addr} {q c : Nat} (h : BK w sr xr nr W) (hB : Below W.heap.size W w') (hN : NdAt clP (W.heap.size ≤ ·) w' n (ndL p (clP p.lit) A q c) p) (v0 v1 v2 v3 v4 v5 v6 v7 v8 v9 : Value) :
    Below w.heap.size w ((((((((((w'.setCell ⟨w.heap.size + 2, 0, none⟩ v0).setCell ⟨w.heap.size + 2, 1, none⟩ v1).setCell ⟨w.heap.size + 2, 2, none⟩ v2).setCell ⟨w.heap.size + 2, 3, none⟩ v3).setCell ⟨w.heap.size + 2, 4, none⟩ v4).setCell ⟨w.heap.size + 2, 5, none⟩ v5).setCell ⟨w.heap.size + 2, 6, none⟩ v6).setCell ⟨w.heap.size + 2, 7, none⟩ v7).setCell ⟨w.heap.size + 2, 8, none⟩ v8).setCell ⟨w.heap.size + 2, 9, none⟩ v9) ∧
    NdAt clP (w.heap.size ≤ ·) ((((((((((w'.setCell ⟨w.heap.size + 2, 0, none⟩ v0).setCell ⟨w.heap.size + 2, 1, none⟩ v1).setCell ⟨w.heap.size + 2, 2, none⟩ v2).setCell ⟨w.heap.size + 2, 3, none⟩ v3).setCell ⟨w.heap.size + 2, 4, none⟩ v4).setCell ⟨w.heap.size + 2, 5, none⟩ v5).setCell ⟨w.heap.size + 2, 6, none⟩ v6).setCell ⟨w.heap.size + 2, 7, none⟩ v7).setCell ⟨w.heap.size + 2, 8, none⟩ v8).setCell ⟨w.heap.size + 2, 9, none⟩ v9) n (ndL p (clP p.lit) A q c) p := by
  have hl := heap_lt h.nd
  refine ⟨set10_below (h.keep hB).below (Nat.le_add_right _ 2) _ _ _ _ _ _ _ _ _ _, ?_⟩
  have key : ∀ (V : World) (i : Nat) (v : Value), NdAt clP (W.heap.size ≤ ·) V n (ndL p (clP p.lit) A q c) p → NdAt clP (W.heap.size ≤ ·) (V.setCell ⟨w.heap.size + 2, i, none⟩ v) n (ndL p (clP p.lit) A q c) p := fun V i v hV => hV.grown (set_grown V _ i v) (fun b hb e => by have := Option.some.inj e; omega)
  have hN := key _ 9 v9 (key _ 8 v8 (key _ 7 v7 (key _ 6 v6 (key _ 5 v5 (key _ 4 v4 (key _ 3 v3 (key _ 2 v2 (key _ 1 v1 (key w' 0 v0 hN)))))))))
  exact hN.mono fun b hb _ => (by omega : w.heap.size ≤ b)
theorem arity_none {k : Int} (h : arity k = none) : (k == 1) = false ∧ (k == 2) = false ∧ (k == 3) = false ∧ (k == 4) = false ∧ (k == 5) = false ∧ (k == 6) = false ∧ (k == 7) = false ∧ (k == 8) = false ∧ (k == 9) = false ∧ (k == 10) = false ∧ (k == 11) = false ∧ (k == 12) = false ∧ (k == 13) = false := by
  unfold arity at h
  split at h
  · cases h
  · split at h
    · cases h
    · split at h
      · cases h
      · simp only [beq_eq_false_iff_ne]
        omega
def TruthsTo (ps : List Nd) (j : Nat) : Prop := ∀ i p, i < j → ps[i]? = some p → likeT p.ty [4] = true
theorem truths_all {ps : List Nd} (h : TruthsTo ps ps.length) : ps.all (fun p => likeT p.ty [4]) = true := by
  rw [List.all_eq_true]
  intro p hp
  obtain ⟨i, hi, rfl⟩ := List.mem_iff_getElem.1 hp
  exact h i _ hi (List.getElem?_eq_getElem hi)
theorem truths_not {ps : List Nd} {i : Nat} {p : Nd} (h : ps[i]? = some p) (hl : likeT p.ty [4] = false) : ¬ ps.all (fun p => likeT p.ty [4]) = true := by
  rw [List.all_eq_true]
  intro hh
  have := hh p (List.mem_of_getElem? h)
  rw [hl] at this
  cases this
theorem TruthsTo.more {ps : List Nd} {j : Nat} {p : Nd} (h : TruthsTo ps j) (hp : ps[j]? = some p) (hl : likeT p.ty [4] = true) : TruthsTo ps (j + 1) := fun i q hi hq => by
  by_cases e : i = j
  · subst e
    rw [hp] at hq
    cases hq
    exact hl
  · exact h i q (by omega) hq
theorem EK.part {n : Nat} {w : World} {sr xr nr : Array Value} {b o : Nat} {vs : List (List Value)} {ps : List Nd} {W : World} (h : EK n w sr xr nr (some ⟨b, o, none⟩) vs ps W) {i : Nat} {p : Nd} (hp : ps[i]? = some p) : ∃ (v : Vl) (A : Option Addr) (m c : Nat), ∀ (k : Nat) (u : Value), (ndL p v A m c)[k]? = some u → W.cell? ⟨b, o + i * 10 + k, none⟩ = some u := by
  have hl := h.nds.1
  obtain ⟨x, hx⟩ : ∃ x, vs[i]? = some x := ⟨_, List.getElem?_eq_getElem (by have := (List.getElem?_eq_some_iff.1 hp).1; omega)⟩
  have hN := h.nds.2 i x p hx hp
  rcases h.cells.2 with h0 | ⟨b', o', h1, _, h3⟩
  · rw [h0] at hx; cases hx
  · cases h1
    cases n with
    | zero => exact hN.elim
    | succ n =>
      obtain ⟨A, c, us, e, _⟩ := hN
      refine ⟨clP p.lit, A, us.length, c, fun k u hu => (h3 i x hx).2 k u (by rw [e]; exact hu)⟩
theorem EK.held2 {n : Nat} {w : World} {sr : Array Value} {xr : Array Value} {n0 n1 n2 n3 n4 n5 n6 n7 n8 n9 : Value} {b o : Nat} {vs : List (List Value)} {p0 p1 : Nd} {W : World} {t0 t1 : Int} (h : EK n w sr xr #[n0, n1, n2, n3, n4, n5, n6, n7, n8, n9] (some ⟨b, o, none⟩) vs [p0, p1] W) (h0 : t0 = p0.ty) (h1 : t1 = p1.ty) :
    W.cell? ⟨w.heap.size + 3, 9, none⟩ = some n9 ∧ W.cell? ⟨b, o + 8, none⟩ = some (.int .i64 t0) ∧ W.cell? ⟨b, o + 18, none⟩ = some (.int .i64 t1) ∧ W.cell? ⟨w.heap.size + 3, 8, none⟩ = some (rdC W ⟨w.heap.size + 3, 8, none⟩) ∧ W.frozen? ⟨w.heap.size + 3, 8, none⟩ = false := by
  refine ⟨cell_of_row _ _ 9 _ _ _ h.bk.nd, ?_, ?_, rdC_of (cell_of_row _ _ 8 _ _ _ h.bk.nd), frozen_of_row _ _ 8 _ _ h.bk.nd⟩
  · have := h.tyA (i := 0) (p := p0) rfl
    rwa [← h0, Nat.zero_mul, Nat.add_zero] at this
  · have := h.tyA (i := 1) (p := p1) rfl
    rwa [← h1] at this
theorem EK.held1 {n : Nat} {w : World} {sr : Array Value} {xr : Array Value} {n0 n1 n2 n3 n4 n5 n6 n7 n8 n9 : Value} {b o : Nat} {vs : List (List Value)} {p0 p1 : Nd} {W : World} {t0 t1 : Int} (h : EK n w sr xr #[n0, n1, n2, n3, n4, n5, n6, n7, n8, n9] (some ⟨b, o, none⟩) vs [p0, p1] W) (h0 : t0 = p0.ty) (h1 : t1 = p1.ty) :
    W.cell? ⟨w.heap.size + 3, 9, none⟩ = some n9 ∧ W.cell? ⟨b, o + 8, none⟩ = some (.int .i64 t0) ∧ W.cell? ⟨b, o + 18, none⟩ = some (.int .i64 t1) := ⟨(h.held2 h0 h1).1, (h.held2 h0 h1).2.1, (h.held2 h0 h1).2.2.1⟩
theorem BK.all {w : World} {s0 s1 s2 s3 s4 x0 x1 x2 x3 x4 x5 x6 x7 x8 x9 n0 n1 n2 n3 n4 n5 n6 n7 n8 n9 : Value} {W : World} (h : BK w #[s0, s1, s2, s3, s4] #[x0, x1, x2, x3, x4, x5, x6, x7, x8, x9] #[n0, n1, n2, n3, n4, n5, n6, n7, n8, n9] W) :
    W.cell? ⟨w.heap.size, 0, none⟩ = some s0 ∧ W.cell? ⟨w.heap.size, 1, none⟩ = some s1 ∧ W.cell? ⟨w.heap.size, 2, none⟩ = some s2 ∧ W.cell? ⟨w.heap.size, 3, none⟩ = some s3 ∧ W.cell? ⟨w.heap.size, 4, none⟩ = some s4 ∧
    W.cell? ⟨w.heap.size + 1, 0, none⟩ = some x0 ∧ W.cell? ⟨w.heap.size + 1, 1, none⟩ = some x1 ∧ W.cell? ⟨w.heap.size + 1, 2, none⟩ = some x2 ∧ W.cell? ⟨w.heap.size + 1, 3, none⟩ = some x3 ∧ W.cell? ⟨w.heap.size + 1, 4, none⟩ = some x4 ∧ W.cell? ⟨w.heap.size + 1, 5, none⟩ = some x5 ∧ W.cell? ⟨w.heap.size + 1, 6, none⟩ = some x6 ∧ W.cell? ⟨w.heap.size + 1, 7, none⟩ = some x7 ∧ W.cell? ⟨w.heap.size + 1, 8, none⟩ = some x8 ∧ W.cell? ⟨w.heap.size + 1, 9, none⟩ = some x9 ∧
    W.cell? ⟨w.heap.size + 3, 1, none⟩ = some (rdC W ⟨w.heap.size + 3, 1, none⟩) ∧ W.frozen? ⟨w.heap.size + 3, 1, none⟩ = false ∧ W.cell? ⟨w.heap.size + 3, 7, none⟩ = some (rdC W ⟨w.heap.size + 3, 7, none⟩) ∧ W.frozen? ⟨w.heap.size + 3, 7, none⟩ = false ∧ W.cell? ⟨w.heap.size + 3, 8, none⟩ = some (rdC W ⟨w.heap.size + 3, 8, none⟩) ∧ W.frozen? ⟨w.heap.size + 3, 8, none⟩ = false ∧ W.cell? ⟨w.heap.size + 3, 9, none⟩ = some (rdC W ⟨w.heap.size + 3, 9, none⟩) ∧ W.frozen? ⟨w.heap.size + 3, 9, none⟩ = false := by
  obtain ⟨a0, a1, a2, a3, a4⟩ := row5 h.sc
  obtain ⟨b0, b1, b2, b3, b4, b5, b6, b7, b8, b9⟩ := row10 h.ex
  obtain ⟨c0, c1, c2, c3, c4, c5, c6, c7, c8, c9⟩ := row10 h.nd
  obtain ⟨f0, f1, f2, f3, f4, f5, f6, f7, f8, f9⟩ := free10 h.nd
  exact ⟨a0, a1, a2, a3, a4, b0, b1, b2, b3, b4, b5, b6, b7, b8, b9, rdC_of c1, f1, rdC_of c7, f7, rdC_of c8, f8, rdC_of c9, f9⟩
end Go.Proofs.YthdmfaepjemopaaGreatDoor
namespace Go.Proofs.YthdmfaepjemopaaGreatDoor
open Go.RowKit

set_option maxRecDepth 100000 in
set_option maxHeartbeats 16000000 in
theorem expr_neg_ok (n : Nat) (s : Sc) (ins fol : Bool) (x : Ex) (w : World) (hk : x.kind = 3) (p0 : Nd) (hl0 : likeT p0.ty [1, 2] = true)
    (HAR : ∀ W, Below w.heap.size w W → Calls Tryz.prog 41 #[scV s ins fol, exV x, .int .i64 1] W (ArgsO n W (.ok [p0]))) :
    Calls Tryz.prog 25 #[scV s ins fol, exV x] w (ExprO (n + 1) w (.ok (.mk 3 ⟨#[]⟩ zeroV 0 false p0.ty [p0]))) := by
  obtain ⟨k, op, ⟨lk, ln, lf, ls⟩, tn, nm, ng, xa, xc, xs⟩ := x
  obtain ⟨sa, sc, ta, tc, ba, bc, rows⟩ := s
  obtain rfl : k = 3 := hk
  unfold scV exV at HAR ⊢
  dsimp only [Ex.kind, Ex.op, Ex.lit, Ex.table, Ex.name, Ex.neg, Ex.A, Ex.c, Ex.args] at HAR ⊢
  generalize xs.length = q at HAR ⊢
  generalize rows.length = rn at HAR ⊢
  have HA := Lib.hid HAR
  have HBK0 := Lib.hid (BK.start w #[.slice sa rn sc, .slice ta rn tc, .slice ba rn bc, .bool ins, .bool fol] #[.int .i64 3, .string op, .int .i64 lk, .int .i64 ln, .float .f64 lf, .string ls, .string tn, .string nm, .bool ng, .slice xa q xc] (ndR 3 0 0))
  clear HAR
  obtain ⟨t0, ht0⟩ : ∃ t, t = p0.ty := ⟨_, rfl⟩
  have HT0 := Lib.hid ht0
  have hl : likeT t0 [1, 2] = true := by rw [ht0]; exact hl0
  have HLK := Lib.hid (show ∀ (b : Nat) (W : World), W.heap.size = b → Calls Tryz.prog 26 #[.int .i64 t0, .slice (some ⟨b, 0, none⟩) 2 2] (W.alloc (.cells #[.int .i64 1, .int .i64 2] 3)) (RetV (.bool true) (W.alloc (.cells #[.int .i64 1, .int .i64 2] 3))) from fun b W h => by
    have := like_any t0 (some ⟨b, 0, none⟩) 2 [1, 2] _ (ints_at W b [1, 2] (by show 2 ≤ 1000; omega) h)
    rwa [hl] at this)
  have HCK := fun w => check_yes 70 w
  clear hl hl0 ht0
  have sf := store_float
  go_enter Tryz.func25, Tryz.ntmps25
  go_wp2_with (first
    | (go_at_call 41; (with_reducible refine (HA.out _ HBK0.out.below).mono ?_); rintro e w5 hO
       obtain ⟨A5, c5, vs, rfl, hB5, hC5, hA5, hN5⟩ := argso_ok hO
       have HE5 := Lib.hid (EK.of HBK0.out hB5 hC5 hA5 hN5)
       have hvl : vs.length = 1 := hN5.1
       obtain ⟨ab, ao, rfl⟩ := HE5.out.addr (by show 0 < 1; omega)
       have HE6 := Lib.hid (show EK n w _ _ #[.int .i64 3, .string ⟨#[]⟩, .int .i64 0, .int .i64 0, .float .f64 0, .string ⟨#[]⟩, .int .i64 0, .bool false, .int .i64 0, .slice (some ⟨ab, ao, none⟩) 1 c5] (some ⟨ab, ao, none⟩) vs [p0] (w5.setCell ⟨w.heap.size + 3, 9, none⟩ (.slice (some ⟨ab, ao, none⟩) 1 c5)) from HE5.out.set 9 _)
       have HE7 := Lib.hid (show EK n w _ _ #[.int .i64 3, .string ⟨#[]⟩, .int .i64 0, .int .i64 0, .float .f64 0, .string ⟨#[]⟩, .int .i64 0, .bool false, .int .i64 t0, .slice (some ⟨ab, ao, none⟩) 1 c5] (some ⟨ab, ao, none⟩) vs [p0] ((w5.setCell ⟨w.heap.size + 3, 9, none⟩ (.slice (some ⟨ab, ao, none⟩) 1 c5)).setCell ⟨w.heap.size + 3, 8, none⟩ (.int .i64 t0)) from HE6.out.set 8 _)
       have z9 := cell_of_row _ _ 9 _ _ _ HE5.out.bk.nd
       have y9 := frozen_of_row _ _ 9 _ _ HE5.out.bk.nd
       have z9b := cell_of_row _ _ 9 _ _ _ HE6.out.bk.nd
       have z8b := cell_of_row _ _ 8 _ _ _ HE6.out.bk.nd
       have y8b := frozen_of_row _ _ 8 _ _ HE6.out.bk.nd
       have z8c := cell_of_row _ _ 8 _ _ _ HE7.out.bk.nd
       have htyb : (w5.setCell ⟨w.heap.size + 3, 9, none⟩ (.slice (some ⟨ab, ao, none⟩) 1 c5)).cell? ⟨ab, ao + 8, none⟩ = some (.int .i64 t0) := by
         have := HE6.out.tyA (i := 0) (p := p0) rfl
         rwa [← HT0.out, Nat.zero_mul, Nat.add_zero] at this
       have hz5 := heap_lt HE5.out.bk.nd
       have HVL := Lib.hid hvl
       rw [hvl]
       clear hO hB5 hC5 hA5 hN5 hvl)
    | (go_at_call 26; (with_reducible refine (HLK.out _ _ (by simp)).mono ?_); rintro e w8 ⟨rfl, hB8⟩
       have HE8 := Lib.hid ((HE7.out.keep (below1 _ _)).keep hB8)
       obtain ⟨a0, a1, a2, a3, a4, a5, a6, a7, a8, a9⟩ := row10 HE8.out.bk.nd
       obtain ⟨b0, b1, b2, b3, b4, b5, b6, b7, b8, b9⟩ := row10 HE8.out.bk.ans
       obtain ⟨f0, f1, f2, f3, f4, f5, f6, f7, f8, f9⟩ := free10 HE8.out.bk.ans
       have hlz := heap_lt HE8.out.bk.ans
       clear hB8 z9 y9 z9b z8b y8b z8c htyb)
    | (go_at_call 24; (with_reducible refine (HCK _).mono ?_); rintro e w' ⟨rfl, rfl⟩)
    | fail)
  have HD := Lib.hid (HE8.out.done (p := .mk 3 ⟨#[]⟩ zeroV 0 false p0.ty [p0]) c5 (.int .i64 3) (.string ⟨#[]⟩) (.int .i64 0) (.int .i64 0) (.float .f64 0) (.string ⟨#[]⟩) (.int .i64 0) (.bool false) (.int .i64 t0) (.slice (some ⟨ab, ao, none⟩) 1 c5))
  refine bodyPost_ret (v := .agg #[.int .i64 3, .string ⟨#[]⟩, .int .i64 0, .int .i64 0, .float .f64 0, .string ⟨#[]⟩, .int .i64 0, .bool false, .int .i64 t0, .slice (some ⟨ab, ao, none⟩) 1 c5]) (by simp [results, Tryz.results25, go_sem, b0, b1, b2, b3, b4, b5, b6, b7, b8, b9]) rfl ⟨HD.out.1, some ⟨ab, ao, none⟩, c5, vs.length, ?_, HD.out.2⟩
  rw [show clP (Nd.mk 3 ⟨#[]⟩ zeroV 0 false p0.ty [p0]).lit = zeroV from clP_zero, HVL.out, HT0.out]
  rfl
set_option maxRecDepth 100000 in
set_option maxHeartbeats 16000000 in
theorem expr_neg_ty (n : Nat) (s : Sc) (ins fol : Bool) (x : Ex) (w : World) (hk : x.kind = 3) (p0 : Nd) (hl0 : likeT p0.ty [1, 2] = false)
    (HAR : ∀ W, Below w.heap.size w W → Calls Tryz.prog 41 #[scV s ins fol, exV x, .int .i64 1] W (ArgsO n W (.ok [p0]))) :
    Calls Tryz.prog 25 #[scV s ins fol, exV x] w (ExprO (n + 1) w (.error 70)) := by
  obtain ⟨k, op, ⟨lk, ln, lf, ls⟩, tn, nm, ng, xa, xc, xs⟩ := x
  obtain ⟨sa, sc, ta, tc, ba, bc, rows⟩ := s
  obtain rfl : k = 3 := hk
  unfold scV exV at HAR ⊢
  dsimp only [Ex.kind, Ex.op, Ex.lit, Ex.table, Ex.name, Ex.neg, Ex.A, Ex.c, Ex.args] at HAR ⊢
  generalize xs.length = q at HAR ⊢
  generalize rows.length = rn at HAR ⊢
  have HA := Lib.hid HAR
  have HBK0 := Lib.hid (BK.start w #[.slice sa rn sc, .slice ta rn tc, .slice ba rn bc, .bool ins, .bool fol] #[.int .i64 3, .string op, .int .i64 lk, .int .i64 ln, .float .f64 lf, .string ls, .string tn, .string nm, .bool ng, .slice xa q xc] (ndR 3 0 0))
  clear HAR
  obtain ⟨t0, ht0⟩ : ∃ t, t = p0.ty := ⟨_, rfl⟩
  have HT0 := Lib.hid ht0
  have hl : likeT t0 [1, 2] = false := by rw [ht0]; exact hl0
  have HLK := Lib.hid (show ∀ (b : Nat) (W : World), W.heap.size = b → Calls Tryz.prog 26 #[.int .i64 t0, .slice (some ⟨b, 0, none⟩) 2 2] (W.alloc (.cells #[.int .i64 1, .int .i64 2] 3)) (RetV (.bool false) (W.alloc (.cells #[.int .i64 1, .int .i64 2] 3))) from fun b W h => by
    have := like_any t0 (some ⟨b, 0, none⟩) 2 [1, 2] _ (ints_at W b [1, 2] (by show 2 ≤ 1000; omega) h)
    rwa [hl] at this)
  have HCK := fun w => check_no 70 w
  clear hl hl0 ht0
  have sf := store_float
  go_enter Tryz.func25, Tryz.ntmps25
  go_wp2_with (first
    | (go_at_call 41; (with_reducible refine (HA.out _ HBK0.out.below).mono ?_); rintro e w5 hO
       obtain ⟨A5, c5, vs, rfl, hB5, hC5, hA5, hN5⟩ := argso_ok hO
       have HE5 := Lib.hid (EK.of HBK0.out hB5 hC5 hA5 hN5)
       have hvl : vs.length = 1 := hN5.1
       obtain ⟨ab, ao, rfl⟩ := HE5.out.addr (by show 0 < 1; omega)
       have HE6 := Lib.hid (show EK n w _ _ #[.int .i64 3, .string ⟨#[]⟩, .int .i64 0, .int .i64 0, .float .f64 0, .string ⟨#[]⟩, .int .i64 0, .bool false, .int .i64 0, .slice (some ⟨ab, ao, none⟩) 1 c5] (some ⟨ab, ao, none⟩) vs [p0] (w5.setCell ⟨w.heap.size + 3, 9, none⟩ (.slice (some ⟨ab, ao, none⟩) 1 c5)) from HE5.out.set 9 _)
       have HE7 := Lib.hid (show EK n w _ _ #[.int .i64 3, .string ⟨#[]⟩, .int .i64 0, .int .i64 0, .float .f64 0, .string ⟨#[]⟩, .int .i64 0, .bool false, .int .i64 t0, .slice (some ⟨ab, ao, none⟩) 1 c5] (some ⟨ab, ao, none⟩) vs [p0] ((w5.setCell ⟨w.heap.size + 3, 9, none⟩ (.slice (some ⟨ab, ao, none⟩) 1 c5)).setCell ⟨w.heap.size + 3, 8, none⟩ (.int .i64 t0)) from HE6.out.set 8 _)
       have z9 := cell_of_row _ _ 9 _ _ _ HE5.out.bk.nd
       have y9 := frozen_of_row _ _ 9 _ _ HE5.out.bk.nd
       have z9b := cell_of_row _ _ 9 _ _ _ HE6.out.bk.nd
       have z8b := cell_of_row _ _ 8 _ _ _ HE6.out.bk.nd
       have y8b := frozen_of_row _ _ 8 _ _ HE6.out.bk.nd
       have z8c := cell_of_row _ _ 8 _ _ _ HE7.out.bk.nd
       have htyb : (w5.setCell ⟨w.heap.size + 3, 9, none⟩ (.slice (some ⟨ab, ao, none⟩) 1 c5)).cell? ⟨ab, ao + 8, none⟩ = some (.int .i64 t0) := by
         have := HE6.out.tyA (i := 0) (p := p0) rfl
         rwa [← HT0.out, Nat.zero_mul, Nat.add_zero] at this
       have hz5 := heap_lt HE5.out.bk.nd
       have HVL := Lib.hid hvl
       rw [hvl]
       clear hO hB5 hC5 hA5 hN5 hvl)
    | (go_at_call 26; (with_reducible refine (HLK.out _ _ (by simp)).mono ?_); rintro e w8 ⟨rfl, hB8⟩
       have HE8 := Lib.hid ((HE7.out.keep (below1 _ _)).keep hB8)
       obtain ⟨a0, a1, a2, a3, a4, a5, a6, a7, a8, a9⟩ := row10 HE8.out.bk.nd
       obtain ⟨b0, b1, b2, b3, b4, b5, b6, b7, b8, b9⟩ := row10 HE8.out.bk.ans
       obtain ⟨f0, f1, f2, f3, f4, f5, f6, f7, f8, f9⟩ := free10 HE8.out.bk.ans
       have hlz := heap_lt HE8.out.bk.ans
       clear hB8 z9 y9 z9b z8b y8b z8c htyb)
    | (go_at_call 24; (with_reducible refine (HCK _).mono ?_); rintro e w' ⟨rfl, rfl⟩)
    | fail)
  exact ⟨rfl, HE8.out.bk.below, rfl⟩
set_option maxRecDepth 100000 in
set_option maxHeartbeats 16000000 in
theorem expr_neg_args (n : Nat) (s : Sc) (ins fol : Bool) (x : Ex) (w : World) (hk : x.kind = 3) (er : Int)
    (HAR : ∀ W, Below w.heap.size w W → Calls Tryz.prog 41 #[scV s ins fol, exV x, .int .i64 1] W (ArgsO n W (.error er))) :
    Calls Tryz.prog 25 #[scV s ins fol, exV x] w (ExprO (n + 1) w (.error er)) := by
  obtain ⟨k, op, ⟨lk, ln, lf, ls⟩, tn, nm, ng, xa, xc, xs⟩ := x
  obtain ⟨sa, sc, ta, tc, ba, bc, rows⟩ := s
  obtain rfl : k = 3 := hk
  unfold scV exV at HAR ⊢
  dsimp only [Ex.kind, Ex.op, Ex.lit, Ex.table, Ex.name, Ex.neg, Ex.A, Ex.c, Ex.args] at HAR ⊢
  generalize xs.length = q at HAR ⊢
  generalize rows.length = rn at HAR ⊢
  have HA := Lib.hid HAR
  have HBK0 := Lib.hid (BK.start w #[.slice sa rn sc, .slice ta rn tc, .slice ba rn bc, .bool ins, .bool fol] #[.int .i64 3, .string op, .int .i64 lk, .int .i64 ln, .float .f64 lf, .string ls, .string tn, .string nm, .bool ng, .slice xa q xc] (ndR 3 0 0))
  clear HAR
  have sf := store_float
  go_enter Tryz.func25, Tryz.ntmps25
  go_wp2_with (first
    | (go_at_call 41; (with_reducible refine (HA.out _ HBK0.out.below).mono ?_); rintro e w5 hO
       obtain ⟨rfl, hB5⟩ := argso_no hO)
    | fail)
  exact ⟨rfl, (HBK0.out.keep hB5).below, rfl⟩
end Go.Proofs.YthdmfaepjemopaaGreatDoor
namespace Go.Proofs.YthdmfaepjemopaaGreatDoor
open Go.RowKit

set_option maxRecDepth 100000 in
set_option maxHeartbeats 16000000 in
theorem expr_nul_ok (n : Nat) (s : Sc) (ins fol : Bool) (x : Ex) (w : World) (hk : x.kind = 9) (p0 : Nd)
    (HAR : ∀ W, Below w.heap.size w W → Calls Tryz.prog 41 #[scV s ins fol, exV x, .int .i64 1] W (ArgsO n W (.ok [p0]))) :
    Calls Tryz.prog 25 #[scV s ins fol, exV x] w (ExprO (n + 1) w (.ok (.mk 9 ⟨#[]⟩ zeroV 0 x.neg 4 [p0]))) := by
  obtain ⟨k, op, ⟨lk, ln, lf, ls⟩, tn, nm, ng, xa, xc, xs⟩ := x
  obtain ⟨sa, sc, ta, tc, ba, bc, rows⟩ := s
  obtain rfl : k = 9 := hk
  unfold scV exV at HAR ⊢
  dsimp only [Ex.kind, Ex.op, Ex.lit, Ex.table, Ex.name, Ex.neg, Ex.A, Ex.c, Ex.args] at HAR ⊢
  generalize xs.length = q at HAR ⊢
  generalize rows.length = rn at HAR ⊢
  have HA := Lib.hid HAR
  have HBK0 := Lib.hid (BK.start w #[.slice sa rn sc, .slice ta rn tc, .slice ba rn bc, .bool ins, .bool fol] #[.int .i64 9, .string op, .int .i64 lk, .int .i64 ln, .float .f64 lf, .string ls, .string tn, .string nm, .bool ng, .slice xa q xc] (ndR 9 0 0))
  clear HAR
  have HBD := Lib.hid (HBK0.out.keep (Below.refl _ _).drew)
  have sf := store_float
  go_enter Tryz.func25, Tryz.ntmps25
  go_upto_region 37 with (fail)
  go_region_held3 (fun wx => wx.cell? ⟨w.heap.size, 0, none⟩ = some (.slice sa rn sc) ∧ wx.cell? ⟨w.heap.size, 1, none⟩ = some (.slice ta rn tc) ∧ wx.cell? ⟨w.heap.size, 2, none⟩ = some (.slice ba rn bc) ∧ wx.cell? ⟨w.heap.size, 3, none⟩ = some (.bool ins) ∧ wx.cell? ⟨w.heap.size, 4, none⟩ = some (.bool fol) ∧ wx.cell? ⟨w.heap.size + 1, 0, none⟩ = some (.int .i64 9) ∧ wx.cell? ⟨w.heap.size + 1, 1, none⟩ = some (.string op) ∧ wx.cell? ⟨w.heap.size + 1, 2, none⟩ = some (.int .i64 lk) ∧ wx.cell? ⟨w.heap.size + 1, 3, none⟩ = some (.int .i64 ln) ∧ wx.cell? ⟨w.heap.size + 1, 4, none⟩ = some (.float .f64 lf) ∧ wx.cell? ⟨w.heap.size + 1, 5, none⟩ = some (.string ls) ∧ wx.cell? ⟨w.heap.size + 1, 6, none⟩ = some (.string tn) ∧ wx.cell? ⟨w.heap.size + 1, 7, none⟩ = some (.string nm) ∧ wx.cell? ⟨w.heap.size + 1, 8, none⟩ = some (.bool ng) ∧ wx.cell? ⟨w.heap.size + 1, 9, none⟩ = some (.slice xa q xc) ∧ wx.cell? ⟨w.heap.size + 3, 1, none⟩ = some (rdC wx ⟨w.heap.size + 3, 1, none⟩) ∧ wx.frozen? ⟨w.heap.size + 3, 1, none⟩ = false ∧ wx.cell? ⟨w.heap.size + 3, 7, none⟩ = some (rdC wx ⟨w.heap.size + 3, 7, none⟩) ∧ wx.frozen? ⟨w.heap.size + 3, 7, none⟩ = false ∧ wx.cell? ⟨w.heap.size + 3, 8, none⟩ = some (rdC wx ⟨w.heap.size + 3, 8, none⟩) ∧ wx.frozen? ⟨w.heap.size + 3, 8, none⟩ = false ∧ wx.cell? ⟨w.heap.size + 3, 9, none⟩ = some (rdC wx ⟨w.heap.size + 3, 9, none⟩) ∧ wx.frozen? ⟨w.heap.size + 3, 9, none⟩ = false)
    (first
      | (with_reducible exact HBD.out.all)
      | (with_reducible exact HE5.out.bk.all)
      | (with_reducible exact HE6.out.bk.all)
      | (with_reducible exact HE7.out.bk.all)
      | (with_reducible exact HE8.out.bk.all)
      | fail)
    (first
      | (go_at_call 41; (with_reducible refine (HA.out _ HBD.out.below).mono ?_); rintro e w5 hO
         obtain ⟨A5, c5, vs, rfl, hB5, hC5, hA5, hN5⟩ := argso_ok hO
         have HE5 := Lib.hid (EK.of HBD.out hB5 hC5 hA5 hN5)
         have hvl : vs.length = 1 := hN5.1
         obtain ⟨ab, ao, rfl⟩ := HE5.out.addr (by show 0 < 1; omega)
         have HE6 := Lib.hid (show EK n w _ _ #[.int .i64 9, .string ⟨#[]⟩, .int .i64 0, .int .i64 0, .float .f64 0, .string ⟨#[]⟩, .int .i64 0, .bool ng, .int .i64 0, .slice none 0 0] (some ⟨ab, ao, none⟩) vs [p0] (w5.setCell ⟨w.heap.size + 3, 7, none⟩ (.bool ng)) from HE5.out.set 7 _)
         have HE7 := Lib.hid (show EK n w _ _ #[.int .i64 9, .string ⟨#[]⟩, .int .i64 0, .int .i64 0, .float .f64 0, .string ⟨#[]⟩, .int .i64 0, .bool ng, .int .i64 0, .slice (some ⟨ab, ao, none⟩) 1 c5] (some ⟨ab, ao, none⟩) vs [p0] ((w5.setCell ⟨w.heap.size + 3, 7, none⟩ (.bool ng)).setCell ⟨w.heap.size + 3, 9, none⟩ (.slice (some ⟨ab, ao, none⟩) 1 c5)) from HE6.out.set 9 _)
         have HE8 := Lib.hid (show EK n w _ _ #[.int .i64 9, .string ⟨#[]⟩, .int .i64 0, .int .i64 0, .float .f64 0, .string ⟨#[]⟩, .int .i64 0, .bool ng, .int .i64 4, .slice (some ⟨ab, ao, none⟩) 1 c5] (some ⟨ab, ao, none⟩) vs [p0] (((w5.setCell ⟨w.heap.size + 3, 7, none⟩ (.bool ng)).setCell ⟨w.heap.size + 3, 9, none⟩ (.slice (some ⟨ab, ao, none⟩) 1 c5)).setCell ⟨w.heap.size + 3, 8, none⟩ (.int .i64 4)) from HE7.out.set 8 _)
         have HVL := Lib.hid hvl
         rw [hvl]
         clear hO hB5 hC5 hA5 hN5 hvl)
      | fail)
  generalize (((w5.setCell ⟨w.heap.size + 3, 7, none⟩ (.bool ng)).setCell ⟨w.heap.size + 3, 9, none⟩ (.slice (some ⟨ab, ao, none⟩) 1 c5)).setCell ⟨w.heap.size + 3, 8, none⟩ (.int .i64 4)) = w8 at HE8 ⊢
  obtain ⟨a0, a1, a2, a3, a4, a5, a6, a7, a8, a9⟩ := row10 HE8.out.bk.nd
  obtain ⟨b0, b1, b2, b3, b4, b5, b6, b7, b8, b9⟩ := row10 HE8.out.bk.ans
  obtain ⟨f0, f1, f2, f3, f4, f5, f6, f7, f8, f9⟩ := free10 HE8.out.bk.ans
  have hlz := heap_lt HE8.out.bk.ans
  go_wp2_with fail
  have HD := Lib.hid (HE8.out.done (p := .mk 9 ⟨#[]⟩ zeroV 0 ng 4 [p0]) c5 (.int .i64 9) (.string ⟨#[]⟩) (.int .i64 0) (.int .i64 0) (.float .f64 0) (.string ⟨#[]⟩) (.int .i64 0) (.bool ng) (.int .i64 4) (.slice (some ⟨ab, ao, none⟩) 1 c5))
  refine bodyPost_ret (v := .agg #[.int .i64 9, .string ⟨#[]⟩, .int .i64 0, .int .i64 0, .float .f64 0, .string ⟨#[]⟩, .int .i64 0, .bool ng, .int .i64 4, .slice (some ⟨ab, ao, none⟩) 1 c5]) (by simp [results, Tryz.results25, go_sem, b0, b1, b2, b3, b4, b5, b6, b7, b8, b9]) rfl ⟨HD.out.1, some ⟨ab, ao, none⟩, c5, vs.length, ?_, HD.out.2⟩
  rw [show clP (Nd.mk 9 ⟨#[]⟩ zeroV 0 ng 4 [p0]).lit = zeroV from clP_zero, HVL.out]
  rfl
set_option maxRecDepth 100000 in
set_option maxHeartbeats 16000000 in
theorem expr_nul_args (n : Nat) (s : Sc) (ins fol : Bool) (x : Ex) (w : World) (hk : x.kind = 9) (er : Int)
    (HAR : ∀ W, Below w.heap.size w W → Calls Tryz.prog 41 #[scV s ins fol, exV x, .int .i64 1] W (ArgsO n W (.error er))) :
    Calls Tryz.prog 25 #[scV s ins fol, exV x] w (ExprO (n + 1) w (.error er)) := by
  obtain ⟨k, op, ⟨lk, ln, lf, ls⟩, tn, nm, ng, xa, xc, xs⟩ := x
  obtain ⟨sa, sc, ta, tc, ba, bc, rows⟩ := s
  obtain rfl : k = 9 := hk
  unfold scV exV at HAR ⊢
  dsimp only [Ex.kind, Ex.op, Ex.lit, Ex.table, Ex.name, Ex.neg, Ex.A, Ex.c, Ex.args] at HAR ⊢
  generalize xs.length = q at HAR ⊢
  generalize rows.length = rn at HAR ⊢
  have HA := Lib.hid HAR
  have HBK0 := Lib.hid (BK.start w #[.slice sa rn sc, .slice ta rn tc, .slice ba rn bc, .bool ins, .bool fol] #[.int .i64 9, .string op, .int .i64 lk, .int .i64 ln, .float .f64 lf, .string ls, .string tn, .string nm, .bool ng, .slice xa q xc] (ndR 9 0 0))
  clear HAR
  have HBD := Lib.hid (HBK0.out.keep (Below.refl _ _).drew)
  have sf := store_float
  go_enter Tryz.func25, Tryz.ntmps25
  go_upto_region 37 with (fail)
  refine wp_region_held_drew (S := (fun wx => wx.cell? ⟨w.heap.size, 0, none⟩ = some (.slice sa rn sc) ∧ wx.cell? ⟨w.heap.size, 1, none⟩ = some (.slice ta rn tc) ∧ wx.cell? ⟨w.heap.size, 2, none⟩ = some (.slice ba rn bc) ∧ wx.cell? ⟨w.heap.size, 3, none⟩ = some (.bool ins) ∧ wx.cell? ⟨w.heap.size, 4, none⟩ = some (.bool fol) ∧ wx.cell? ⟨w.heap.size + 1, 0, none⟩ = some (.int .i64 9) ∧ wx.cell? ⟨w.heap.size + 1, 1, none⟩ = some (.string op) ∧ wx.cell? ⟨w.heap.size + 1, 2, none⟩ = some (.int .i64 lk) ∧ wx.cell? ⟨w.heap.size + 1, 3, none⟩ = some (.int .i64 ln) ∧ wx.cell? ⟨w.heap.size + 1, 4, none⟩ = some (.float .f64 lf) ∧ wx.cell? ⟨w.heap.size + 1, 5, none⟩ = some (.string ls) ∧ wx.cell? ⟨w.heap.size + 1, 6, none⟩ = some (.string tn) ∧ wx.cell? ⟨w.heap.size + 1, 7, none⟩ = some (.string nm) ∧ wx.cell? ⟨w.heap.size + 1, 8, none⟩ = some (.bool ng) ∧ wx.cell? ⟨w.heap.size + 1, 9, none⟩ = some (.slice xa q xc) ∧ wx.cell? ⟨w.heap.size + 3, 1, none⟩ = some (rdC wx ⟨w.heap.size + 3, 1, none⟩) ∧ wx.frozen? ⟨w.heap.size + 3, 1, none⟩ = false ∧ wx.cell? ⟨w.heap.size + 3, 7, none⟩ = some (rdC wx ⟨w.heap.size + 3, 7, none⟩) ∧ wx.frozen? ⟨w.heap.size + 3, 7, none⟩ = false ∧ wx.cell? ⟨w.heap.size + 3, 8, none⟩ = some (rdC wx ⟨w.heap.size + 3, 8, none⟩) ∧ wx.frozen? ⟨w.heap.size + 3, 8, none⟩ = false ∧ wx.cell? ⟨w.heap.size + 3, 9, none⟩ = some (rdC wx ⟨w.heap.size + 3, 9, none⟩) ∧ wx.frozen? ⟨w.heap.size + 3, 9, none⟩ = false)) (by kernel_rfl) HBD.out.all (fun hHeld => ?_)
  refine wpAnyH_take (i := 0) (v := ?_) (List.getElem?_toArray.trans rfl) (by kernel_rfl) (by kernel_rfl) (by kernel_rfl) (fun _ _ _ h => h) (Or.inl ⟨by rfl, ?_⟩) hHeld ?_
  rotate_left
  · intro wx hSw
    (try dsimp only at hSw)
    go_simp
    (try with_reducible rfl)
  (try simp only [Act.put, List.setIfInBounds_toArray, List.set_cons_zero, List.set_cons_succ])
  refine wpAnyH_take (i := 1) (v := ?_) (List.getElem?_toArray.trans rfl) (by kernel_rfl) (by kernel_rfl) (by kernel_rfl) (fun _ _ _ h => h) (Or.inl ⟨by rfl, ?_⟩) hHeld ?_
  rotate_left
  · intro wx hSw
    (try dsimp only at hSw)
    go_simp
    (try with_reducible rfl)
  (try simp only [Act.put, List.setIfInBounds_toArray, List.set_cons_zero, List.set_cons_succ])
  refine wpAnyH_take (i := 2) (v := ?_) (List.getElem?_toArray.trans rfl) (by kernel_rfl) (by kernel_rfl) (by kernel_rfl) (fun _ _ _ h => h) (Or.inl ⟨by rfl, ?_⟩) hHeld ?_
  rotate_left
  · intro wx hSw
    (try dsimp only at hSw)
    go_simp
    (try with_reducible rfl)
  (try simp only [Act.put, List.setIfInBounds_toArray, List.set_cons_zero, List.set_cons_succ])
  refine wpAnyH_take (i := 3) (v := ?_) (List.getElem?_toArray.trans rfl) (by kernel_rfl) (by kernel_rfl) (by kernel_rfl) (fun _ _ _ h => h) (Or.inl ⟨by rfl, ?_⟩) hHeld ?_
  rotate_left
  · intro wx hSw
    (try dsimp only at hSw)
    go_simp
    (try with_reducible rfl)
  (try simp only [Act.put, List.setIfInBounds_toArray, List.set_cons_zero, List.set_cons_succ])
  refine wpAnyH_take (i := 5) (v := ?_) (List.getElem?_toArray.trans rfl) (by kernel_rfl) (by kernel_rfl) (by kernel_rfl) (fun _ _ _ h => h) (Or.inl ⟨by rfl, ?_⟩) hHeld ?_
  rotate_left
  · intro wx hSw
    (try dsimp only at hSw)
    go_simp
    (try with_reducible rfl)
  (try simp only [Act.put, List.setIfInBounds_toArray, List.set_cons_zero, List.set_cons_succ])
  refine wpAnyH_ready (rs := [4]) (by kernel_rfl) (by simp) ?_
  refine AllReadyH.cons (List.getElem?_toArray.trans rfl) (fun K hK => ?_) AllReadyH.nil
  go_simp
  go_at_call 41
  with_reducible refine Calls.mono (HA.out _ HBD.out.below) ?_
  rintro e w5 hO
  obtain ⟨rfl, hB5⟩ := argso_no hO
  exact ⟨rfl, (HBD.out.keep hB5).below, rfl⟩
end Go.Proofs.YthdmfaepjemopaaGreatDoor
