/- The document's parser at the words of one text: a test. The document's parser at the words of one text: a list of one expression. The document's parser at the words of one text: a table's name; one condition. -/
import Derived.Test.YthdmfaepjemopaaGreatDoorQAJ
namespace Go.Proofs.YthdmfaepjemopaaGreatDoor
open Go.RowKit

theorem wp_region_val {P : Program} {ops : Array Oper} {Q : Exit → Act → World → Prop} {n0 n id : Nat} {a0 : Act} {w0 : World} (C : Bool → World → Prop) (pv : Nat → Value) (s : Nat) (early : List Nat)
    (hm : P.follows .mixedOrders = true) (hf : regionT ops n0 n = true) (hn : n ≤ a0.tmps.size) (h0 : C false w0.drew)
    (hearly : ∀ o, ops[s]? = some o → o.dst = none ∧ ∀ i ∈ early, ∃ e ∈ o.after, Region.binds .any e = true ∧ e.on = i) (hs : s ∉ early)
    (hstep : ∀ i o, i < n0 → i ≠ s → ops[i]? = some o → ∀ f a w, (i ∈ early → f = false) → SameBut ops n0 a0 a → C f w → (∀ e ∈ o.after, Region.binds .any e = true → e.on < n0 → e.on ≠ s → leftAt ops a e.on = pv e.on) → Oper.wp P o a w (fun a' w' => a' = a.put o.dst (pv i) ∧ C f w') Q)
    (hstore : ∀ o, ops[s]? = some o → ∀ a w, SameBut ops n0 a0 a → C false w → (∀ e ∈ o.after, Region.binds .any e = true → e.on < n0 → e.on ≠ s → leftAt ops a e.on = pv e.on) → Oper.wp P o a w (fun a' w' => a' = a ∧ C true w') Q)
    (hdst : ∀ i o, i < n0 → i ≠ s → ops[i]? = some o → o.dst ≠ none)
    (hsn : s < n0)
    (hend : ∀ a w, SameBut ops n0 a0 a → C true w → (∀ j, j < n0 → j ≠ s → leftAt ops a j = pv j) → wpList P ops Q (ops.toList.drop n0) a w) :
    (Code.region id ops true).wp P Q a0 w0 := by
  refine wp_region_T (n0 := n0) (n := n) (fun st w => C (st s).isSome w ∧ (∀ j x, st j = some x → j < n0 → j ≠ s → x = pv j) ∧ ((st s).isSome = true → ∀ i ∈ early, st i ≠ none)) hm hf hn ⟨h0, fun j x h => (by cases h), fun h => (by cases h)⟩ (fun i o hi ho st a w hsb hJ hnone hde => ?_) (fun st a w hsb hJ hall => ?_)
  · obtain ⟨hC, hv, he⟩ := hJ
    have hdep : ∀ e ∈ o.after, Region.binds .any e = true → e.on < n0 → e.on ≠ s → leftAt ops a e.on = pv e.on := fun e hm hb hlt hne => hv e.on _ (hde e hm hb) hlt hne
    by_cases his : i = s
    · subst his
      rw [hnone] at hC
      refine Oper.wp_mono (fun a' w' ⟨h1, h2⟩ => ?_) (hstore o ho a w hsb hC hdep)
      obtain ⟨hd, hed⟩ := hearly o ho
      refine ⟨undef, by rw [h1, hd]; rfl, ?_, fun j x hx hj hne => ?_, fun _ j hj => ?_⟩
      · show C (Done.set st i _ i).isSome w'
        unfold Done.set
        rw [if_pos rfl]
        exact h2
      · unfold Done.set at hx
        rw [if_neg hne] at hx
        exact hv j x hx hj hne
      · unfold Done.set
        split
        · exact fun h => by cases h
        · obtain ⟨e, hm, hb, rfl⟩ := hed j hj
          rw [hde e hm hb]
          exact fun h => by cases h
    · have hdst' := hdst i o hi his ho
      have hdv : ∀ v, dstVal o v = v := fun v => by
        unfold dstVal
        cases hd : o.dst with
        | none => exact absurd hd hdst'
        | some d => rfl
      refine Oper.wp_mono (fun a' w' ⟨h1, h2⟩ => ?_) (hstep i o hi his ho (st s).isSome a w (fun hie => ?_) hsb hC hdep)
      · cases hss : (st s).isSome with
        | false => rfl
        | true => exact absurd hnone (he hss i hie)
      · refine ⟨pv i, h1, ?_, fun j x hx hj hne => ?_, fun hss j hj => ?_⟩
        · show C (Done.set st i _ s).isSome w'
          unfold Done.set
          rw [if_neg (Ne.symm his)]
          exact h2
        · unfold Done.set at hx
          split at hx
          · rename_i h
            subst h
            rw [hdv] at hx
            exact (Option.some.inj hx).symm
          · exact hv j x hx hj hne
        · unfold Done.set
          split
          · exact fun h => by cases h
          · refine he ?_ j hj
            unfold Done.set at hss
            rwa [if_neg (Ne.symm his)] at hss
  · obtain ⟨hC, hv, he⟩ := hJ
    rw [hall s hsn] at hC
    exact hend a w hsb hC fun j hj hne => hv j _ (hall j hj) hj hne
theorem wp_region_fl {P : Program} {ops : Array Oper} {Q : Exit → Act → World → Prop} {n0 n id : Nat} {a0 : Act} {w0 : World} (C : (Nat → Bool) → World → Prop) (pv : Nat → Value)
    (hm : P.follows .mixedOrders = true) (hf : regionT ops n0 n = true) (hn : n ≤ a0.tmps.size) (h0 : C (fun _ => false) w0.drew)
    (hstep : ∀ i o, i < n0 → ops[i]? = some o → ∀ fl a w, fl i = false → SameBut ops n0 a0 a → C fl w → (∀ e ∈ o.after, Region.binds .any e = true → e.on < n0 → leftAt ops a e.on = pv e.on) → Oper.wp P o a w (fun a' w' => a' = a.put o.dst (pv i) ∧ C (fun j => if j = i then true else fl j) w') Q)
    (hdst : ∀ i o, i < n0 → ops[i]? = some o → o.dst = none → pv i = undef)
    (hend : ∀ fl a w, SameBut ops n0 a0 a → (∀ j, j < n0 → fl j = true) → C fl w → (∀ j, j < n0 → leftAt ops a j = pv j) → wpList P ops Q (ops.toList.drop n0) a w) :
    (Code.region id ops true).wp P Q a0 w0 := by
  refine wp_region_T (n0 := n0) (n := n) (fun st w => C (fun j => (st j).isSome) w ∧ ∀ j x, st j = some x → j < n0 → x = pv j) hm hf hn ⟨h0, fun j x h => (by cases h)⟩ (fun i o hi ho st a w hsb hJ hnone hde => ?_) (fun st a w hsb hJ hall => ?_)
  · obtain ⟨hC, hv⟩ := hJ
    have h2 : dstVal o (pv i) = pv i := by
      unfold dstVal
      cases hd : o.dst with
      | none => exact (hdst i o hi ho hd).symm
      | some d => rfl
    refine Oper.wp_mono (fun a' w' ⟨h1, h3⟩ => ?_) (hstep i o hi ho (fun j => (st j).isSome) a w (by rw [hnone]; rfl) hsb hC fun e hm hb hlt => hv e.on _ (hde e hm hb) hlt)
    refine ⟨pv i, h1, ?_, fun j x hx hj => ?_⟩
    · have e : (fun j => (Done.set st i (dstVal o (pv i)) j).isSome) = fun j => if j = i then true else (st j).isSome := by
        funext j
        unfold Done.set
        split <;> rfl
      rw [e]
      exact h3
    · unfold Done.set at hx
      split at hx
      · rename_i h
        subst h
        rw [← h2]
        exact (Option.some.inj hx).symm
      · exact hv j x hx hj
  · obtain ⟨hC, hv⟩ := hJ
    exact hend _ a w hsb (fun j hj => by rw [hall j hj]; rfl) hC fun j hj => hv j _ (hall j hj) hj
structure NC (w : World) (g h b o c : Nat) (z : Int) (x : Ex) (ys : Array Value) (W : World) : Prop where
  nb : NB w g b o c z x W
  y : W.heap[h]? = some (.cells ys 41)
  hg : g < h
theorem NC.keep {w : World} {g h b o c : Nat} {z : Int} {x : Ex} {ys : Array Value} {W W' : World} (hn : NC w g h b o c z x ys W) (hB : Below W.heap.size W W') : NC w g h b o c z x ys W' :=
  ⟨hn.nb.keep hB, (hB.block _ (heap_lt hn.y)).trans hn.y, hn.hg⟩

set_option maxRecDepth 100000 in
theorem open86 {a : Act} (h : a.tmps.size = 86) : ∃ u : Nat → Value, a.tmps = #[u 0, u 1, u 2, u 3, u 4, u 5, u 6, u 7, u 8, u 9, u 10, u 11, u 12, u 13, u 14, u 15, u 16, u 17, u 18, u 19, u 20, u 21, u 22, u 23, u 24, u 25, u 26, u 27, u 28, u 29, u 30, u 31, u 32, u 33, u 34, u 35, u 36, u 37, u 38, u 39, u 40, u 41, u 42, u 43, u 44, u 45, u 46, u 47, u 48, u 49, u 50, u 51, u 52, u 53, u 54, u 55, u 56, u 57, u 58, u 59, u 60, u 61, u 62, u 63, u 64, u 65, u 66, u 67, u 68, u 69, u 70, u 71, u 72, u 73, u 74, u 75, u 76, u 77, u 78, u 79, u 80, u 81, u 82, u 83, u 84, u 85] ∧ ∀ t, t < 86 → a.tmps.getD t undef = u t := by
  refine ⟨fun t => a.tmps.getD t undef, ?_, fun t _ => rfl⟩
  have e : a.tmps = ((List.range 86).map fun t => a.tmps.getD t undef).toArray := by
    apply Array.ext
    · simp [h]
    · intro i h1 h2
      simp [h1]
  exact e
theorem heap_set10 {W : World} {b : Nat} {u0 u1 u2 u3 u4 u5 u6 u7 u8 u9 : Value} {ty : TypeId} (h : W.heap[b]? = some (.cells #[u0, u1, u2, u3, u4, u5, u6, u7, u8, u9] ty)) {v0 v1 v2 v3 v4 v5 v6 v7 v8 v9 : Value} : ((((((((((W.setCell ⟨b, 0, none⟩ v0).setCell ⟨b, 1, none⟩ v1).setCell ⟨b, 2, none⟩ v2).setCell ⟨b, 3, none⟩ v3).setCell ⟨b, 4, none⟩ v4).setCell ⟨b, 5, none⟩ v5).setCell ⟨b, 6, none⟩ v6).setCell ⟨b, 7, none⟩ v7).setCell ⟨b, 8, none⟩ v8).setCell ⟨b, 9, none⟩ v9).heap[b]? = some (.cells #[v0, v1, v2, v3, v4, v5, v6, v7, v8, v9] ty) := by
  have key : ∀ (V : World) (cs : Array Value) (i : Nat) (x : Value), V.heap[b]? = some (.cells cs ty) → (V.setCell ⟨b, i, none⟩ x).heap[b]? = some (.cells (cs.setIfInBounds i x) ty) := fun V cs i x hV => by
    rw [setCell_eq_setRow V _ i _ ty _ _ hV]
    exact setRow_heap V _ _ _ ty _ hV
  have h1 := key _ _ 0 v0 h
  change _ = some (Obj.cells #[v0, u1, u2, u3, u4, u5, u6, u7, u8, u9] ty) at h1
  have h2 := key _ _ 1 v1 h1
  change _ = some (Obj.cells #[v0, v1, u2, u3, u4, u5, u6, u7, u8, u9] ty) at h2
  have h3 := key _ _ 2 v2 h2
  change _ = some (Obj.cells #[v0, v1, v2, u3, u4, u5, u6, u7, u8, u9] ty) at h3
  have h4 := key _ _ 3 v3 h3
  change _ = some (Obj.cells #[v0, v1, v2, v3, u4, u5, u6, u7, u8, u9] ty) at h4
  have h5 := key _ _ 4 v4 h4
  change _ = some (Obj.cells #[v0, v1, v2, v3, v4, u5, u6, u7, u8, u9] ty) at h5
  have h6 := key _ _ 5 v5 h5
  change _ = some (Obj.cells #[v0, v1, v2, v3, v4, v5, u6, u7, u8, u9] ty) at h6
  have h7 := key _ _ 6 v6 h6
  change _ = some (Obj.cells #[v0, v1, v2, v3, v4, v5, v6, u7, u8, u9] ty) at h7
  have h8 := key _ _ 7 v7 h7
  change _ = some (Obj.cells #[v0, v1, v2, v3, v4, v5, v6, v7, u8, u9] ty) at h8
  have h9 := key _ _ 8 v8 h8
  change _ = some (Obj.cells #[v0, v1, v2, v3, v4, v5, v6, v7, v8, u9] ty) at h9
  have h10 := key _ _ 9 v9 h9
  change _ = some (Obj.cells #[v0, v1, v2, v3, v4, v5, v6, v7, v8, v9] ty) at h10
  exact h10
theorem BX.out10 {w W : World} {bs : List Obj} (h : BX w bs W) {b : Nat} (hb : w.heap.size + bs.length ≤ b) {v0 v1 v2 v3 v4 v5 v6 v7 v8 v9 : Value} : BX w bs ((((((((((W.setCell ⟨b, 0, none⟩ v0).setCell ⟨b, 1, none⟩ v1).setCell ⟨b, 2, none⟩ v2).setCell ⟨b, 3, none⟩ v3).setCell ⟨b, 4, none⟩ v4).setCell ⟨b, 5, none⟩ v5).setCell ⟨b, 6, none⟩ v6).setCell ⟨b, 7, none⟩ v7).setCell ⟨b, 8, none⟩ v8).setCell ⟨b, 9, none⟩ v9) := (((((((((h.out hb).out hb).out hb).out hb).out hb).out hb).out hb).out hb).out hb).out hb
theorem heap_far4 {W : World} {b g : Nat} (h : g ≠ b) {v0 v1 v2 v3 : Value} : ((((W.setCell ⟨b, 0, none⟩ v0).setCell ⟨b, 1, none⟩ v1).setCell ⟨b, 2, none⟩ v2).setCell ⟨b, 3, none⟩ v3).heap[g]? = W.heap[g]? := (heap_setFar _ h).trans ((heap_setFar _ h).trans ((heap_setFar _ h).trans (heap_setFar _ h)))
theorem heap_far10 {W : World} {b g : Nat} (h : g ≠ b) {v0 v1 v2 v3 v4 v5 v6 v7 v8 v9 : Value} : ((((((((((W.setCell ⟨b, 0, none⟩ v0).setCell ⟨b, 1, none⟩ v1).setCell ⟨b, 2, none⟩ v2).setCell ⟨b, 3, none⟩ v3).setCell ⟨b, 4, none⟩ v4).setCell ⟨b, 5, none⟩ v5).setCell ⟨b, 6, none⟩ v6).setCell ⟨b, 7, none⟩ v7).setCell ⟨b, 8, none⟩ v8).setCell ⟨b, 9, none⟩ v9).heap[g]? = W.heap[g]? := (heap_setFar _ h).trans ((heap_setFar _ h).trans ((heap_setFar _ h).trans ((heap_setFar _ h).trans ((heap_setFar _ h).trans ((heap_setFar _ h).trans ((heap_setFar _ h).trans ((heap_setFar _ h).trans ((heap_setFar _ h).trans (heap_setFar _ h)))))))))
theorem NC.putP {w : World} {g h b o c : Nat} {z : Int} {x : Ex} {ys : Array Value} {W : World} (hn : NC w g h b o c z x ys W) (hx : x.args = []) (z3 : Int) : NC w g h b o c z3 x ys ((((W.setCell ⟨w.heap.size, 0, none⟩ (.slice (some ⟨b, o, none⟩) 15 c)).setCell ⟨w.heap.size, 1, none⟩ (.int .i64 z3)).setCell ⟨w.heap.size, 2, none⟩ (.int .i64 0)).setCell ⟨w.heap.size, 3, none⟩ (.int .i64 0)) := by
  have hf := hn.nb.far
  have hg := hn.hg
  exact ⟨⟨hn.nb.bx.setP (k := 0) rfl b o c z3, (heap_far4 (by omega)).trans hn.nb.ops, Or.inl hx, hf⟩, (heap_far4 (by omega)).trans hn.y, hg⟩
theorem NC.putY {w : World} {g h b o c : Nat} {z : Int} {x : Ex} {W : World} (hn : NC w g h b o c z x exZ W) (hx : x.args = []) (y : Ex) : NC w g h b o c z x (exR y) ((((((((((W.setCell ⟨h, 0, none⟩ (.int .i64 y.kind)).setCell ⟨h, 1, none⟩ (.string y.op)).setCell ⟨h, 2, none⟩ (.int .i64 y.lit.k)).setCell ⟨h, 3, none⟩ (.int .i64 y.lit.n)).setCell ⟨h, 4, none⟩ (.float .f64 y.lit.f)).setCell ⟨h, 5, none⟩ (.string y.lit.s)).setCell ⟨h, 6, none⟩ (.string y.table)).setCell ⟨h, 7, none⟩ (.string y.name)).setCell ⟨h, 8, none⟩ (.bool y.neg)).setCell ⟨h, 9, none⟩ (.slice y.A y.args.length y.c)) := by
  have hf := hn.nb.far
  have hg := hn.hg
  exact ⟨⟨hn.nb.bx.out10 (by show w.heap.size + 4 ≤ h; omega), (heap_far10 (by omega)).trans hn.nb.ops, Or.inl hx, hf⟩, heap_set10 hn.y, hg⟩
structure NX (w : World) (g h b o c : Nat) (z : Int) (x y : Ex) (P1 E2 : Array Value) (W : World) : Prop where
  bx : BX w [.cells (pC b o c z) 99, .cells P1 99, .cells E2 41, .cells (exR x) 41] W
  ops : W.heap[g]? = some (.cells opsR 9)
  y : W.heap[h]? = some (.cells (exR y) 41)
  fg : w.heap.size + 4 ≤ g
  fh : w.heap.size + 4 ≤ h
theorem NX.keep {w : World} {g h b o c : Nat} {z : Int} {x y : Ex} {P1 E2 : Array Value} {W W' : World} (hn : NX w g h b o c z x y P1 E2 W) (hB : Below W.heap.size W W') : NX w g h b o c z x y P1 E2 W' :=
  ⟨hn.bx.keep hB, (hB.block _ (heap_lt hn.ops)).trans hn.ops, (hB.block _ (heap_lt hn.y)).trans hn.y, hn.fg, hn.fh⟩
theorem NX.setP {w : World} {g h b o c : Nat} {z : Int} {x y : Ex} {E2 : Array Value} {W : World} (hn : NX w g h b o c z x y pZ E2 W) : NX w g h b o c z x y (pC b o c z) E2 ((((W.setCell ⟨w.heap.size + 1, 0, none⟩ (.slice (some ⟨b, o, none⟩) 15 c)).setCell ⟨w.heap.size + 1, 1, none⟩ (.int .i64 z)).setCell ⟨w.heap.size + 1, 2, none⟩ (.int .i64 0)).setCell ⟨w.heap.size + 1, 3, none⟩ (.int .i64 0)) := by
  have h1 := hn.fg
  have h2 := hn.fh
  exact ⟨hn.bx.setP (k := 1) rfl b o c z, (heap_far4 (by omega)).trans hn.ops, (heap_far4 (by omega)).trans hn.y, h1, h2⟩
def CX (w : World) (g h b o c : Nat) (z : Int) (x y : Ex) (N : Nat) (f7 f9 : Bool) (W : World) : Prop :=
  NX w g h b o c z x y (cond f9 (pC b o c z) pZ) exZ W ∧ (f7 = false → W.heap.size = N) ∧ (f7 = true → W.heap[N]? = some (.cells (exL x ++ exL y).toArray 41)) ∧ w.heap.size + 4 ≤ N
theorem CX.setP {w : World} {g h b o c : Nat} {z : Int} {x y : Ex} {N : Nat} {f7 : Bool} {W : World} (hC : CX w g h b o c z x y N f7 false W) : CX w g h b o c z x y N f7 true ((((W.setCell ⟨w.heap.size + 1, 0, none⟩ (.slice (some ⟨b, o, none⟩) 15 c)).setCell ⟨w.heap.size + 1, 1, none⟩ (.int .i64 z)).setCell ⟨w.heap.size + 1, 2, none⟩ (.int .i64 0)).setCell ⟨w.heap.size + 1, 3, none⟩ (.int .i64 0)) := by
  have hN := hC.2.2.2
  exact ⟨hC.1.setP, fun h => by simpa using hC.2.1 h, fun h => (heap_far4 (by omega)).trans (hC.2.2.1 h), hN⟩
@[reducible] def cmpX (N : Nat) (x y : Ex) : Ex := .mk 7 ⟨#[61]⟩ zeroV ⟨#[]⟩ ⟨#[]⟩ false (some ⟨N, 0, none⟩) 2 [x, y]

set_option maxHeartbeats 32000000 in
theorem not_cmp (b o c j : Nat) (z zz : Int) (hz : zz = j) (w : World) (hT : TksAt w b o) (hj : j < 15) (Φ : Ex → Prop) (d : Int) (h0 : ∀ W, Below w.heap.size w W → Calls Tryz.prog 53 #[pV b o c z, .string ⟨#[78, 79, 84]⟩] W (RetV (.bool false) W)) (hC : ∀ W, Below w.heap.size w W → Calls Tryz.prog 84 #[pV b o c z, .int .i64 5, .int .i64 d] W (XP Φ b o c zz W)) (h1 : nx j ⟨#[73, 83]⟩ = false) (hcol : ∀ x, Φ x → x.args = []) (n0 : nx j ⟨#[61]⟩ = true) (y : Ex) (hy : y.args = []) (z3 : Int) (hC2 : ∀ W, Below w.heap.size w W → Calls Tryz.prog 84 #[pV b o c (zz + 1), .int .i64 5, .int .i64 d] W (RetV (.tuple #[pV b o c z3, exV y]) W)) : Calls Tryz.prog 95 #[pV b o c z, .int .i64 d] w (XP (fun X => ∃ (A : Option Addr) (k : Nat) (x : Ex), Φ x ∧ X = .mk 7 ⟨#[61]⟩ zeroV ⟨#[]⟩ ⟨#[]⟩ false A k [x, y]) b o c z3 w) := by
  have HN0 := Lib.hid h0
  have HC := Lib.hid hC
  have HN := Lib.hid (fun q r (h : nx j q = r) W (hB : Below w.heap.size w W) => show Calls Tryz.prog 53 #[pV b o c zz, .string q] W (RetV (.bool r) W) from by have := next_any b o c j zz hz q W (hT.keep hB) hj; rwa [h] at this)
  have HM := Lib.hid (show ∀ W, Below w.heap.size w W → Calls Tryz.prog 55 #[pV b o c zz, .string ⟨#[61]⟩] W (RetV (pV b o c (zz + 1)) W) from fun W hB => must_yes b o c j zz hz _ W (hT.keep hB) hj n0)
  have HC2 := Lib.hid hC2
  have HCOL := Lib.hid hcol
  have HY := Lib.hid hy
  have hzz0 : 0 ≤ zz := by omega
  have hzz15 : zz < 15 := by omega
  clear hT hz h0 hC hC2 hcol hy
  have sf := store_float
  go_enter Tryz.func95, Tryz.ntmps95
  go_wp2_with (first
    | (go_at_call 53; (with_reducible refine Calls.mono (HN0.out _ (BX.four w _ _ _ _).below) ?_); rintro e w2 ⟨rfl, hB2⟩
       have HB2 := Lib.hid ((BX.four w _ _ _ _).keep hB2)
       clear hB2
       obtain ⟨la, ra0, ra1, ra2, ra3, fa0, fa1, fa2, fa3⟩ := HB2.out.p4 0 rfl
       simp only [Nat.add_zero] at la ra0 ra1 ra2 ra3 fa0 fa1 fa2 fa3
)
    | (go_at_call 84; (with_reducible refine Calls.mono (HC.out _ HB2.out.below) ?_); rintro e w4 ⟨x, rfl, hB4, hx, hP⟩
       have HB4 := Lib.hid (HB2.out.keep hB4)
       have HX4 := Lib.hid (hx.mono (m := w.heap.size + 4) (by have := HB2.out.size 3 (by simp); omega))
       have HP := Lib.hid hP
       clear hB4 hx hP la ra0 ra1 ra2 ra3 fa0 fa1 fa2 fa3 HB2
       obtain ⟨la, ra0, ra1, ra2, ra3, fa0, fa1, fa2, fa3⟩ := HB4.out.p4 0 rfl
       simp only [Nat.add_zero] at la ra0 ra1 ra2 ra3 fa0 fa1 fa2 fa3
       obtain ⟨ld, rd0, rd1, rd2, rd3, rd4, rd5, rd6, rd7, rd8, rd9, fd0, fd1, fd2, fd3, fd4, fd5, fd6, fd7, fd8, fd9⟩ := HB4.out.e10 3 rfl
       simp only [plus3] at ld rd0 rd1 rd2 rd3 rd4 rd5 rd6 rd7 rd8 rd9 fd0 fd1 fd2 fd3 fd4 fd5 fd6 fd7 fd8 fd9
)
    | (go_at_call 53; (with_reducible refine Calls.mono (HN.out _ _ h1 _ ?hbw) ?_); (case hbw => exact ((HB4.out.setP (k := 0) rfl b o c zz).setX (k := 3) rfl x).below); rintro e w6 ⟨rfl, hB6⟩
       have HB6 := Lib.hid (((HB4.out.setP (k := 0) rfl b o c zz).setX (k := 3) rfl x).keep hB6)
       have HX6 := Lib.hid (HX4.out.far ((((Far.refl (w.heap.size + 4) w4).set4 (b := w.heap.size) (by omega) (.slice (some ⟨b, o, none⟩) 15 c) (.int .i64 zz) (.int .i64 0) (.int .i64 0)).set10 (b := w.heap.size + 3) (by omega) (.int .i64 x.kind) (.string x.op) (.int .i64 x.lit.k) (.int .i64 x.lit.n) (.float .f64 x.lit.f) (.string x.lit.s) (.string x.table) (.string x.name) (.bool x.neg) (.slice x.A x.args.length x.c)).keep hB6))
       clear hB6 la ra0 ra1 ra2 ra3 fa0 fa1 fa2 fa3 ld rd0 rd1 rd2 rd3 rd4 rd5 rd6 rd7 rd8 rd9 fd0 fd1 fd2 fd3 fd4 fd5 fd6 fd7 fd8 fd9 HB4 HX4)
    | fail)
  have HNB := Lib.hid (show NB w w6.heap.size b o c zz x (w6.alloc (.cells opsR 9)) from ⟨HB6.out.alloc _, heap_alloc_new w6 _, HX6.out.far ((Far.refl _ w6).alloc _), by have := HB6.out.size 3 (by simp); omega⟩)
  obtain ⟨g, hg⟩ : ∃ g, g = w6.heap.size := ⟨_, rfl⟩
  rw [← hg] at HNB ⊢
  generalize w6.alloc (.cells opsR 9) = w7 at HNB ⊢
  clear HB6 HX6 hg
  go_loopw [9] (fun i wr => i = .int .i64 0 ∧ Hid (NB w g b o c zz x wr)) (fun _ _ => 0)
  case atStart => exact ⟨rfl, HNB⟩
  case round =>
    clear HNB
    obtain ⟨rfl, HB⟩ := hrel
    obtain ⟨wo, rfl⟩ : ∃ wo : World, wo = wr := ⟨_, rfl⟩
    have HS := Lib.hid (show ∀ wx, Below wo.heap.size wo wx → wx.cell? ⟨w.heap.size, 0, none⟩ = some (.slice (some ⟨b, o, none⟩) 15 c) ∧ wx.cell? ⟨w.heap.size, 1, none⟩ = some (.int .i64 zz) ∧ wx.cell? ⟨w.heap.size, 2, none⟩ = some (.int .i64 0) ∧ wx.cell? ⟨w.heap.size, 3, none⟩ = some (.int .i64 0) ∧ wx.cell? ⟨g, 0, none⟩ = some (.string ⟨#[61]⟩) from fun wx hx => by
      obtain ⟨-, a0, a1, a2, a3, -⟩ := (HB.out.keep hx).bx.p4 0 rfl
      exact ⟨a0, a1, a2, a3, cell_of_row _ _ 0 _ _ _ (HB.out.keep hx).ops⟩)
    have hW0 : Below wo.heap.size wo wo.drew := (Below.refl _ _).drew
    go_wp2_with fail
    go_region_held3 (fun wx => wx.cell? ⟨w.heap.size, 0, none⟩ = some (.slice (some ⟨b, o, none⟩) 15 c) ∧ wx.cell? ⟨w.heap.size, 1, none⟩ = some (.int .i64 zz) ∧ wx.cell? ⟨w.heap.size, 2, none⟩ = some (.int .i64 0) ∧ wx.cell? ⟨w.heap.size, 3, none⟩ = some (.int .i64 0) ∧ wx.cell? ⟨g, 0, none⟩ = some (.string ⟨#[61]⟩))
      (first
        | exact HS.out _ hW0
        | (with_reducible assumption)
        | exact HS.out _ hW4
        | fail)
      (first
        | (go_at_call 53; (with_reducible refine Calls.mono (HN.out _ _ n0 _ ?hbw) ?_); (case hbw => exact (HB.out.keep hW0).bx.below); rintro e w4 ⟨rfl, hB4⟩; have hW4 := hW0.trans (hB4.mono hW0.size))
        | fail)
    have HB4 := Lib.hid (HB.out.keep hW4)
    clear HB HS hW0 hW4 hB4
    go_upto_region 18 with (fail)
    obtain ⟨h, hh⟩ : ∃ h, h = w4.heap.size := ⟨_, rfl⟩
    have HC4 := Lib.hid (show NC w g h b o c zz x exZ (w4.alloc (.cells exZ 41)) from ⟨HB4.out.keep (below1 _ _), by rw [hh]; exact heap_alloc_new w4 _, by rw [hh]; exact heap_lt HB4.out.ops⟩)
    rw [← hh]
    generalize w4.alloc (.cells exZ 41) = w5 at HC4 ⊢
    clear HB4 hh
    have hDr := HC4.out.keep (Below.refl _ w5).drew
    clear HC4
    refine wp_region_val (n0 := 12) (n := 86) (fun f W => NC w g h b o c (cond f z3 zz) x exZ W) (fun j => (([pV b o c zz, .slice (some ⟨g, 0, none⟩) 6 6, .int .i64 0, .pointer (some ⟨g, 0, none⟩), .string ⟨#[61]⟩, pV b o c (zz + 1), .int .i64 d, .tuple #[pV b o c z3, exV y], .tuple #[pV b o c z3, exV y], pV b o c z3, exV y] : List Value)[j]?).getD undef) 11 [0, 1, 2, 3, 4, 5, 6, 7, 8, 9] (by kernel_rfl) (by kernel_rfl) (Nat.le_of_eq rfl) hDr ?early (by simp) ?step ?store ?dst (by omega) ?fin
    case step =>
      intro i o2 hi hne ho f a w1 hea hsb hC hpv
      have : i = 0 ∨ i = 1 ∨ i = 2 ∨ i = 3 ∨ i = 4 ∨ i = 5 ∨ i = 6 ∨ i = 7 ∨ i = 8 ∨ i = 9 ∨ i = 10 := by omega
      rcases this with rfl | rfl | rfl | rfl | rfl | rfl | rfl | rfl | rfl | rfl | rfl
      · obtain rfl := Option.some.inj (ho.symm.trans (List.getElem?_toArray.trans rfl))
        obtain rfl := hea (by simp)
        have hC : NC w g h b o c zz x exZ w1 := hC
        have s2 : a.tmps[2]?.getD undef = .pointer (some ⟨w.heap.size, 0, none⟩) := hsb.get 2 (by kernel_rfl) rfl
        obtain ⟨la, ra0, ra1, ra2, ra3, -⟩ := hC.nb.bx.p4 0 rfl
        simp only [Nat.add_zero] at la ra0 ra1 ra2 ra3
        go_simp
        all_goals exact ⟨rfl, hC⟩
      · obtain rfl := Option.some.inj (ho.symm.trans (List.getElem?_toArray.trans rfl))
        obtain rfl := hea (by simp)
        have hC : NC w g h b o c zz x exZ w1 := hC
        have s8 : a.tmps[8]?.getD undef = .slice (some ⟨g, 0, none⟩) 6 6 := hsb.get 8 (by kernel_rfl) rfl
        go_simp
        all_goals exact ⟨rfl, hC⟩
      · obtain rfl := Option.some.inj (ho.symm.trans (List.getElem?_toArray.trans rfl))
        obtain rfl := hea (by simp)
        have hC : NC w g h b o c zz x exZ w1 := hC
        have s9 : a.tmps[9]?.getD undef = .int .i64 0 := hsb.get 9 (by kernel_rfl) rfl
        go_simp
        all_goals exact ⟨rfl, hC⟩
      · obtain rfl := Option.some.inj (ho.symm.trans (List.getElem?_toArray.trans rfl))
        obtain rfl := hea (by simp)
        have hC : NC w g h b o c zz x exZ w1 := hC
        have d66 : a.tmps[66]?.getD undef = .slice (some ⟨g, 0, none⟩) 6 6 := (leftAt_get 66 rfl).trans (hpv ⟨1, .data⟩ (by simp) rfl (by decide) (by decide))
        have d67 : a.tmps[67]?.getD undef = .int .i64 0 := (leftAt_get 67 rfl).trans (hpv ⟨2, .data⟩ (by simp) rfl (by decide) (by decide))
        go_simp
        all_goals exact ⟨rfl, hC⟩
      · obtain rfl := Option.some.inj (ho.symm.trans (List.getElem?_toArray.trans rfl))
        obtain rfl := hea (by simp)
        have hC : NC w g h b o c zz x exZ w1 := hC
        have d68 : a.tmps[68]?.getD undef = .pointer (some ⟨g, 0, none⟩) := (leftAt_get 68 rfl).trans (hpv ⟨3, .data⟩ (by simp) rfl (by decide) (by decide))
        have q0 := cell_of_row _ _ 0 _ _ _ hC.nb.ops
        go_simp
        all_goals exact ⟨rfl, hC⟩
      · obtain rfl := Option.some.inj (ho.symm.trans (List.getElem?_toArray.trans rfl))
        obtain rfl := hea (by simp)
        have hC : NC w g h b o c zz x exZ w1 := hC
        have d65 : a.tmps[65]?.getD undef = pV b o c zz := (leftAt_get 65 rfl).trans (hpv ⟨0, .data⟩ (by simp) rfl (by decide) (by decide))
        have d69 : a.tmps[69]?.getD undef = .string ⟨#[61]⟩ := (leftAt_get 69 rfl).trans (hpv ⟨4, .data⟩ (by simp) rfl (by decide) (by decide))
        go_simp
        go_at_call 55
        with_reducible refine Calls.mono (HM.out _ ?hbw) ?_
        case hbw => exact hC.nb.bx.below
        rintro e w2 ⟨rfl, hB⟩
        exact ⟨rfl, hC.keep hB⟩
      · obtain rfl := Option.some.inj (ho.symm.trans (List.getElem?_toArray.trans rfl))
        obtain rfl := hea (by simp)
        have hC : NC w g h b o c zz x exZ w1 := hC
        have s1 : a.tmps[1]?.getD undef = .int .i64 d := hsb.get 1 (by kernel_rfl) rfl
        go_simp
        all_goals exact ⟨rfl, hC⟩
      · obtain rfl := Option.some.inj (ho.symm.trans (List.getElem?_toArray.trans rfl))
        obtain rfl := hea (by simp)
        have hC : NC w g h b o c zz x exZ w1 := hC
        have d70 : a.tmps[70]?.getD undef = pV b o c (zz + 1) := (leftAt_get 70 rfl).trans (hpv ⟨5, .data⟩ (by simp) rfl (by decide) (by decide))
        have d71 : a.tmps[71]?.getD undef = .int .i64 d := (leftAt_get 71 rfl).trans (hpv ⟨6, .data⟩ (by simp) rfl (by decide) (by decide))
        go_simp
        go_at_call 84
        with_reducible refine Calls.mono (HC2.out _ ?hbw) ?_
        case hbw => exact hC.nb.bx.below
        rintro e w2 ⟨rfl, hB⟩
        exact ⟨rfl, hC.keep hB⟩
      · obtain rfl := Option.some.inj (ho.symm.trans (List.getElem?_toArray.trans rfl))
        obtain rfl := hea (by simp)
        have hC : NC w g h b o c zz x exZ w1 := hC
        have d72 : a.tmps[72]?.getD undef = .tuple #[pV b o c z3, exV y] := (leftAt_get 72 rfl).trans (hpv ⟨7, .data⟩ (by simp) rfl (by decide) (by decide))
        go_simp
        all_goals exact ⟨rfl, hC⟩
      · obtain rfl := Option.some.inj (ho.symm.trans (List.getElem?_toArray.trans rfl))
        obtain rfl := hea (by simp)
        have hC : NC w g h b o c zz x exZ w1 := hC
        have d64 : a.tmps[64]?.getD undef = .tuple #[pV b o c z3, exV y] := (leftAt_get 64 rfl).trans (hpv ⟨8, .data⟩ (by simp) rfl (by decide) (by decide))
        go_simp
        all_goals exact ⟨rfl, hC⟩
      · obtain rfl := Option.some.inj (ho.symm.trans (List.getElem?_toArray.trans rfl))
        have d64 : a.tmps[64]?.getD undef = .tuple #[pV b o c z3, exV y] := (leftAt_get 64 rfl).trans (hpv ⟨8, .data⟩ (by simp) rfl (by decide) (by decide))
        go_simp
        all_goals exact ⟨rfl, hC⟩
    case early =>
      intro o2 ho
      obtain rfl := Option.some.inj (ho.symm.trans (List.getElem?_toArray.trans rfl))
      refine ⟨rfl, fun i hi => ?_⟩
      have : i = 0 ∨ i = 1 ∨ i = 2 ∨ i = 3 ∨ i = 4 ∨ i = 5 ∨ i = 6 ∨ i = 7 ∨ i = 8 ∨ i = 9 := by simpa using hi
      rcases this with rfl | rfl | rfl | rfl | rfl | rfl | rfl | rfl | rfl | rfl
      · exact ⟨⟨0, .phase⟩, by simp, rfl, rfl⟩
      · exact ⟨⟨1, .phase⟩, by simp, rfl, rfl⟩
      · exact ⟨⟨2, .phase⟩, by simp, rfl, rfl⟩
      · exact ⟨⟨3, .phase⟩, by simp, rfl, rfl⟩
      · exact ⟨⟨4, .phase⟩, by simp, rfl, rfl⟩
      · exact ⟨⟨5, .phase⟩, by simp, rfl, rfl⟩
      · exact ⟨⟨6, .phase⟩, by simp, rfl, rfl⟩
      · exact ⟨⟨7, .phase⟩, by simp, rfl, rfl⟩
      · exact ⟨⟨8, .phase⟩, by simp, rfl, rfl⟩
      · exact ⟨⟨9, .data⟩, by simp, rfl, rfl⟩
    case store =>
      intro o2 ho a w1 hsb hC hpv
      obtain rfl := Option.some.inj (ho.symm.trans (List.getElem?_toArray.trans rfl))
      have hC : NC w g h b o c zz x exZ w1 := hC
      have s2 : a.tmps[2]?.getD undef = .pointer (some ⟨w.heap.size, 0, none⟩) := hsb.get 2 (by kernel_rfl) rfl
      have d73 : a.tmps[73]?.getD undef = pV b o c z3 := (leftAt_get 73 rfl).trans (hpv ⟨9, .data⟩ (by simp) rfl (by decide) (by decide))
      obtain ⟨la, ra0, ra1, ra2, ra3, fa0, fa1, fa2, fa3⟩ := hC.nb.bx.p4 0 rfl
      simp only [Nat.add_zero] at la ra0 ra1 ra2 ra3 fa0 fa1 fa2 fa3
      have HD := hC.putP (HCOL.out x HP.out) z3
      clear hpv hC
      go_simp
      all_goals exact ⟨rfl, HD⟩
    case dst =>
      intro i o2 hi hne ho
      have : i = 0 ∨ i = 1 ∨ i = 2 ∨ i = 3 ∨ i = 4 ∨ i = 5 ∨ i = 6 ∨ i = 7 ∨ i = 8 ∨ i = 9 ∨ i = 10 := by omega
      rcases this with rfl | rfl | rfl | rfl | rfl | rfl | rfl | rfl | rfl | rfl | rfl <;> (obtain rfl := Option.some.inj (ho.symm.trans (List.getElem?_toArray.trans rfl)); exact fun h => by cases h)
    case fin =>
      intro a w1 hsb hC hpv
      have hC : NC w g h b o c z3 x exZ w1 := hC
      have HD := Lib.hid (hC.putY (HCOL.out x HP.out) y)
      have d74 : a.tmps[74]?.getD undef = exV y := (leftAt_get 74 rfl).trans (hpv 10 (by omega) (by omega))
      have s2 : a.tmps[2]?.getD undef = .pointer (some ⟨w.heap.size, 0, none⟩) := hsb.get 2 (by kernel_rfl) rfl
      have s4 : a.tmps[4]?.getD undef = .pointer (some ⟨w.heap.size + 1, 0, none⟩) := hsb.get 4 (by kernel_rfl) rfl
      have s5 : a.tmps[5]?.getD undef = .pointer (some ⟨w.heap.size + 1 + 1, 0, none⟩) := hsb.get 5 (by kernel_rfl) rfl
      have s6 : a.tmps[6]?.getD undef = .pointer (some ⟨w.heap.size + 1 + 1 + 1, 0, none⟩) := hsb.get 6 (by kernel_rfl) rfl
      have s8 : a.tmps[8]?.getD undef = .slice (some ⟨g, 0, none⟩) 6 6 := hsb.get 8 (by kernel_rfl) rfl
      have s9 : a.tmps[9]?.getD undef = .int .i64 0 := hsb.get 9 (by kernel_rfl) rfl
      have s10 : a.tmps[10]?.getD undef = .pointer (some ⟨h, 0, none⟩) := hsb.get 10 (by kernel_rfl) rfl
      have hdf : a.defers = [] := hsb.1
      have hsz : a.tmps.size = 86 := hsb.2.1
      have hgh := hC.hg
      have hfar := hC.nb.far
      have nh0 : h ≠ w.heap.size := by omega
      have mh0 : w.heap.size ≠ h := by omega
      obtain ⟨t0, t1, t2, t3, t4, t5, t6, t7, t8, t9⟩ := row10 hC.y
      obtain ⟨y0, y1, y2, y3, y4, y5, y6, y7, y8, y9⟩ := free10 hC.y
      have hly := heap_lt hC.y
      obtain ⟨la, ra0, ra1, ra2, ra3, fa0, fa1, fa2, fa3⟩ := hC.nb.bx.p4 0 rfl
      simp only [Nat.add_zero] at la ra0 ra1 ra2 ra3 fa0 fa1 fa2 fa3
      clear hpv hsb hC hDr
      have HSZ := Lib.hid hsz
      clear hsz
      simp only [List.drop_succ_cons, List.drop_zero]
      refine wpList_plain rfl fun R1 hR1 => ?_
      go_simp
      refine hR1 _ _ ?_
      obtain ⟨u, hu, hug⟩ := open86 HSZ.out
      have p2 := s2; have p4 := s4; have p5 := s5; have p6 := s6; have p8 := s8; have p9 := s9; have p10 := s10
      clear s2 s4 s5 s6 s8 s9 s10 d74 HSZ t0 t1 t2 t3 t4 t5 t6 t7 t8 t9 y0 y1 y2 y3 y4 y5 y6 y7 y8 y9 hly la ra0 ra1 ra2 ra3 fa0 fa1 fa2 fa3
      rw [← Array.getD_eq_getD_getElem?, hug _ (by omega)] at p2 p4 p5 p6 p8 p9 p10
      obtain ⟨tm, df⟩ := a
      dsimp only at hu hdf
      subst hu hdf
      clear hug
      rw [p2, p4, p5, p6, p8, p9, p10]
      clear p2 p4 p5 p6 p8 p9 p10
      change Exit.then _ _ Exit.normal _ _
      generalize ((((((((((w1.setCell ⟨h, 0, none⟩ (.int .i64 y.kind)).setCell ⟨h, 1, none⟩ (.string y.op)).setCell ⟨h, 2, none⟩ (.int .i64 y.lit.k)).setCell ⟨h, 3, none⟩ (.int .i64 y.lit.n)).setCell ⟨h, 4, none⟩ (.float .f64 y.lit.f)).setCell ⟨h, 5, none⟩ (.string y.lit.s)).setCell ⟨h, 6, none⟩ (.string y.table)).setCell ⟨h, 7, none⟩ (.string y.name)).setCell ⟨h, 8, none⟩ (.bool y.neg)).setCell ⟨h, 9, none⟩ (.slice y.A y.args.length y.c)) = W at HD ⊢
      clear hC
      go_upto_region 19 with (fail)
      have hNW : w.heap.size + 4 ≤ W.heap.size := HD.out.nb.bx.size 3 (by simp)
      obtain ⟨N, hN⟩ : ∃ N, N = W.heap.size := ⟨_, rfl⟩
      have HX0 : CX w g h b o c z3 x y N false false W.drew := ⟨⟨HD.out.nb.bx.drew, HD.out.nb.ops, HD.out.y, hfar, by omega⟩, fun _ => hN.symm, fun h => (by cases h), by omega⟩
      clear hNW hN HD
      refine wp_region_fl (n0 := 10) (n := 86) (fun fl W => CX w g h b o c z3 x y N (fl 7) (fl 9) W) (fun j => (([pV b o c z3, .slice (some ⟨g, 0, none⟩) 6 6, .int .i64 0, .pointer (some ⟨g, 0, none⟩), .string ⟨#[61]⟩, exV x, exV y, .slice (some ⟨N, 0, none⟩) 2 2, exV (cmpX N x y)] : List Value)[j]?).getD undef) (by kernel_rfl) (by kernel_rfl) (Nat.le_of_eq rfl) HX0 ?step9 ?dst9 ?fin9
      case step9 =>
        intro i o2 hi ho fl a w1 hfl hsb hC hpv
        have : i = 0 ∨ i = 1 ∨ i = 2 ∨ i = 3 ∨ i = 4 ∨ i = 5 ∨ i = 6 ∨ i = 7 ∨ i = 8 ∨ i = 9 := by omega
        rcases this with rfl | rfl | rfl | rfl | rfl | rfl | rfl | rfl | rfl | rfl
        · obtain rfl := Option.some.inj (ho.symm.trans (List.getElem?_toArray.trans rfl))
          have s2 : a.tmps[2]?.getD undef = .pointer (some ⟨w.heap.size, 0, none⟩) := hsb.get 2 (by kernel_rfl) rfl
          obtain ⟨la, ra0, ra1, ra2, ra3, -⟩ := hC.1.bx.p4 0 rfl
          simp only [Nat.add_zero] at la ra0 ra1 ra2 ra3
          go_simp
          all_goals first | exact ⟨rfl, hC⟩ | exact rfl | trace_state
        · obtain rfl := Option.some.inj (ho.symm.trans (List.getElem?_toArray.trans rfl))
          have s8 : a.tmps[8]?.getD undef = .slice (some ⟨g, 0, none⟩) 6 6 := hsb.get 8 (by kernel_rfl) rfl
          go_simp
          all_goals first | exact ⟨rfl, hC⟩ | exact rfl | trace_state
        · obtain rfl := Option.some.inj (ho.symm.trans (List.getElem?_toArray.trans rfl))
          have s9 : a.tmps[9]?.getD undef = .int .i64 0 := hsb.get 9 (by kernel_rfl) rfl
          go_simp
          all_goals first | exact ⟨rfl, hC⟩ | exact rfl | trace_state
        · obtain rfl := Option.some.inj (ho.symm.trans (List.getElem?_toArray.trans rfl))
          have d76 : a.tmps[76]?.getD undef = .slice (some ⟨g, 0, none⟩) 6 6 := (leftAt_get 76 rfl).trans (hpv ⟨1, .data⟩ (by simp) rfl (by decide))
          have d77 : a.tmps[77]?.getD undef = .int .i64 0 := (leftAt_get 77 rfl).trans (hpv ⟨2, .data⟩ (by simp) rfl (by decide))
          go_simp
          all_goals first | exact ⟨rfl, hC⟩ | exact rfl | trace_state
        · obtain rfl := Option.some.inj (ho.symm.trans (List.getElem?_toArray.trans rfl))
          have d78 : a.tmps[78]?.getD undef = .pointer (some ⟨g, 0, none⟩) := (leftAt_get 78 rfl).trans (hpv ⟨3, .data⟩ (by simp) rfl (by decide))
          have q0 := cell_of_row _ _ 0 _ _ _ hC.1.ops
          go_simp
          all_goals first | exact ⟨rfl, hC⟩ | exact rfl | trace_state
        · obtain rfl := Option.some.inj (ho.symm.trans (List.getElem?_toArray.trans rfl))
          have s6 : a.tmps[6]?.getD undef = .pointer (some ⟨w.heap.size + 1 + 1 + 1, 0, none⟩) := hsb.get 6 (by kernel_rfl) rfl
          obtain ⟨ld, rd0, rd1, rd2, rd3, rd4, rd5, rd6, rd7, rd8, rd9, -⟩ := hC.1.bx.e10 3 rfl
          simp only [plus3] at ld rd0 rd1 rd2 rd3 rd4 rd5 rd6 rd7 rd8 rd9
          go_simp
          all_goals first | exact ⟨rfl, hC⟩ | exact rfl | trace_state
        · obtain rfl := Option.some.inj (ho.symm.trans (List.getElem?_toArray.trans rfl))
          have s10 : a.tmps[10]?.getD undef = .pointer (some ⟨h, 0, none⟩) := hsb.get 10 (by kernel_rfl) rfl
          obtain ⟨t0, t1, t2, t3, t4, t5, t6, t7, t8, t9⟩ := row10 hC.1.y
          go_simp
          all_goals first | exact ⟨rfl, hC⟩ | exact rfl | trace_state
        · obtain rfl := Option.some.inj (ho.symm.trans (List.getElem?_toArray.trans rfl))
          have d80 : a.tmps[80]?.getD undef = exV x := (leftAt_get 80 rfl).trans (hpv ⟨5, .data⟩ (by simp) rfl (by decide))
          have d81 : a.tmps[81]?.getD undef = exV y := (leftAt_get 81 rfl).trans (hpv ⟨6, .data⟩ (by simp) rfl (by decide))
          have hsz := hC.2.1 hfl
          have hnew := heap_alloc_new w1 (.cells (exL x ++ exL y).toArray 41)
          rw [hsz] at hnew
          have HN7 : CX w g h b o c z3 x y N true (fl 9) (w1.alloc (.cells (exL x ++ exL y).toArray 41)) := ⟨hC.1.keep (below1 _ _), fun h => (by cases h), fun _ => hnew, hC.2.2.2⟩
          go_simp
          all_goals first | exact HN7 | exact ⟨by rw [hsz]; rfl, HN7⟩
        · obtain rfl := Option.some.inj (ho.symm.trans (List.getElem?_toArray.trans rfl))
          have d79 : a.tmps[79]?.getD undef = .string ⟨#[61]⟩ := (leftAt_get 79 rfl).trans (hpv ⟨4, .data⟩ (by simp) rfl (by decide))
          have d82 : a.tmps[82]?.getD undef = .slice (some ⟨N, 0, none⟩) 2 2 := (leftAt_get 82 rfl).trans (hpv ⟨7, .data⟩ (by simp) rfl (by decide))
          go_simp
          all_goals first | exact ⟨rfl, hC⟩ | exact rfl | trace_state
        · obtain rfl := Option.some.inj (ho.symm.trans (List.getElem?_toArray.trans rfl))
          have s4 : a.tmps[4]?.getD undef = .pointer (some ⟨w.heap.size + 1, 0, none⟩) := hsb.get 4 (by kernel_rfl) rfl
          have d75 : a.tmps[75]?.getD undef = pV b o c z3 := (leftAt_get 75 rfl).trans (hpv ⟨0, .data⟩ (by simp) rfl (by decide))
          have hC9 : CX w g h b o c z3 x y N (fl 7) (fl 9) w1 := hC
          rw [hfl] at hC9
          obtain ⟨lb, rb0, rb1, rb2, rb3, fb0, fb1, fb2, fb3⟩ := hC9.1.bx.p4 1 rfl
          have HN9 := hC9.setP
          clear hpv hC hC9
          go_simp
          all_goals exact ⟨rfl, HN9⟩
      case dst9 =>
        intro i o2 hi ho hd
        have : i = 0 ∨ i = 1 ∨ i = 2 ∨ i = 3 ∨ i = 4 ∨ i = 5 ∨ i = 6 ∨ i = 7 ∨ i = 8 ∨ i = 9 := by omega
        rcases this with rfl | rfl | rfl | rfl | rfl | rfl | rfl | rfl | rfl | rfl <;> (obtain rfl := Option.some.inj (ho.symm.trans (List.getElem?_toArray.trans rfl)); first | rfl | cases hd)
      case fin9 =>
        intro fl a w1 hsb hfl hC hpv
        have hC9 : CX w g h b o c z3 x y N (fl 7) (fl 9) w1 := hC
        rw [hfl 7 (by omega), hfl 9 (by omega)] at hC9
        have d83 : a.tmps[83]?.getD undef = exV (cmpX N x y) := (leftAt_get 83 rfl).trans (hpv 8 (by omega))
        have s4 : a.tmps[4]?.getD undef = .pointer (some ⟨w.heap.size + 1, 0, none⟩) := hsb.get 4 (by kernel_rfl) rfl
        have s5 : a.tmps[5]?.getD undef = .pointer (some ⟨w.heap.size + 1 + 1, 0, none⟩) := hsb.get 5 (by kernel_rfl) rfl
        have hdf : a.defers = [] := hsb.1
        obtain ⟨lc, rc0, rc1, rc2, rc3, rc4, rc5, rc6, rc7, rc8, rc9, fc0, fc1, fc2, fc3, fc4, fc5, fc6, fc7, fc8, fc9⟩ := hC9.1.bx.e10 2 rfl
        simp only [plus2] at lc rc0 rc1 rc2 rc3 rc4 rc5 rc6 rc7 rc8 rc9 fc0 fc1 fc2 fc3 fc4 fc5 fc6 fc7 fc8 fc9
        have HF := hC9.1.bx.setX (k := 2) rfl (cmpX N x y)
        have hN9 := hC9.2.2.2
        have hXF : XA (w.heap.size + 4) w1 (cmpX N x y) := Or.inr ⟨N, x, y, 41, rfl, HCOL.out x HP.out, HY.out, rfl, by omega, hC9.2.2.1 rfl⟩
        clear hpv hC hC9
        simp only [List.drop_succ_cons, List.drop_zero]
        refine wpList_plain rfl fun R1 hR1 => ?_
        go_simp
        refine hR1 _ _ ?_
        have hXF2 := hXF.far ((Far.refl (w.heap.size + 4) w1).set10 (b := w.heap.size + 2) (by omega) (.int .i64 (cmpX N x y).kind) (.string (cmpX N x y).op) (.int .i64 (cmpX N x y).lit.k) (.int .i64 (cmpX N x y).lit.n) (.float .f64 (cmpX N x y).lit.f) (.string (cmpX N x y).lit.s) (.string (cmpX N x y).table) (.string (cmpX N x y).name) (.bool (cmpX N x y).neg) (.slice (cmpX N x y).A (cmpX N x y).args.length (cmpX N x y).c))
        change Exit.then _ _ Exit.normal _ _
        simp only [Exit.then]
        rename_i K hK
        exact hK _ _ (wp_ret (bodyPost_ret (res_pe (fn := Tryz.f95) rfl s4 s5 (HF.row 1 _ _ rfl) (HF.row 2 _ _ rfl)) hdf ⟨cmpX N x y, rfl, HF.below, hXF2.mono (by omega), _, _, x, HP.out, rfl⟩))

end Go.Proofs.YthdmfaepjemopaaGreatDoor
namespace Go.Proofs.YthdmfaepjemopaaGreatDoor
open Go.RowKit

def SX (n : Nat) (W : World) (A : Option Addr) (x : Ex) : Prop := ∃ (g : Nat) (ty : TypeId), A = some ⟨g, 0, none⟩ ∧ n ≤ g ∧ W.heap[g]? = some (.cells (exR x) ty) ∧ XA n W x
theorem SX.far {n : Nat} {W W' : World} {A : Option Addr} {x : Ex} (h : SX n W A x) (hF : Far n W W') : SX n W' A x := by
  obtain ⟨g, ty, h1, h2, h3, h4⟩ := h
  exact ⟨g, ty, h1, h2, (hF.2 g h2 (heap_lt h3)).trans h3, h4.far hF⟩
theorem SX.mono {n m : Nat} {W : World} {A : Option Addr} {x : Ex} (h : SX n W A x) (hm : m ≤ n) : SX m W A x := by
  obtain ⟨g, ty, h1, h2, h3, h4⟩ := h
  exact ⟨g, ty, h1, Nat.le_trans hm h2, h3, h4.mono hm⟩
def LP (Φ : Ex → Prop) (b o c : Nat) (z : Int) (w : World) (e : Ending) (w' : World) : Prop := ∃ (A : Option Addr) (x : Ex), e = .returned (.tuple #[pV b o c z, .slice A 1 1]) ∧ Below w.heap.size w w' ∧ SX w.heap.size w' A x ∧ Φ x
theorem res_ps {fn : Func} {i j : Nat} (h : fn.results = #[.cell i 99, .tmp j]) {tm : Array Value} {W : World} {pb : Nat} {s : Value} (hp : tm[i]?.getD undef = .pointer (some ⟨pb, 0, none⟩)) (he : tm[j]?.getD undef = s) {v0 v1 v2 v3 : Value} {ty : TypeId} (h1 : W.heap[pb]? = some (.cells #[v0, v1, v2, v3] ty)) :
    (results fn tm).run Tryz.prog W = .ok (.tuple #[.agg #[v0, v1, v2, v3], s]) W := by
  obtain ⟨a0, a1, a2, a3⟩ := row4 h1
  simp [results, h, go_sem, hp, he, a0, a1, a2, a3]
set_option maxHeartbeats 16000000 in
theorem exprs_one (b o c : Nat) (z : Int) (w : World) (Φ : Ex → Prop) (zz : Int) (hC : ∀ W, Below w.heap.size w W → Calls Tryz.prog 84 #[pV b o c z, .int .i64 1, .int .i64 0] W (XP Φ b o c zz W)) (hN : ∀ W, Below w.heap.size w W → Calls Tryz.prog 53 #[pV b o c zz, .string ⟨#[44]⟩] W (RetV (.bool false) W)) : Calls Tryz.prog 79 #[pV b o c z] w (LP Φ b o c zz w) := by
  have HC := Lib.hid hC
  have HN := Lib.hid hN
  clear hC hN
  have sf := store_float
  go_enter Tryz.func79, Tryz.ntmps79
  go_wp2_with (first
    | (go_at_call 84; (with_reducible refine Calls.mono (HC.out _ (BX.two w _ _).below) ?_); rintro e w2 ⟨x, rfl, hB2, hx, hP⟩
       have HB2 := Lib.hid ((BX.two w _ _).keep hB2)
       have HX := Lib.hid (hx.mono (m := w.heap.size + 2) (by simp only [World.size_alloc]; omega))
       have HP := Lib.hid hP
       obtain ⟨la, ra0, ra1, ra2, ra3, fa0, fa1, fa2, fa3⟩ := HB2.out.p4 0 rfl
       simp only [Nat.add_zero] at la ra0 ra1 ra2 ra3 fa0 fa1 fa2 fa3
       have hz2 := HB2.out.size 1 (by simp)
       clear hB2 hx hP)
    | fail)
  have HS3 := Lib.hid (show SX (w.heap.size + 2) ((((((w2.setCell ⟨w.heap.size, 0, none⟩ (.slice (some ⟨b, o, none⟩) 15 c)).setCell ⟨w.heap.size, 1, none⟩ (.int .i64 zz)).setCell ⟨w.heap.size, 2, none⟩ (.int .i64 0)).setCell ⟨w.heap.size, 3, none⟩ (.int .i64 0)).alloc (.cells (exR x) 41)).alloc (.cells (exR x) 41)) (some ⟨w2.heap.size + 1, 0, none⟩) x from by
    refine ⟨w2.heap.size + 1, 41, rfl, by omega, ?_, HX.out.far ((((Far.refl (w.heap.size + 2) w2).set4 (b := w.heap.size) (by omega) _ _ _ _).alloc _).alloc _)⟩
    have := heap_alloc_new (((((w2.setCell ⟨w.heap.size, 0, none⟩ (.slice (some ⟨b, o, none⟩) 15 c)).setCell ⟨w.heap.size, 1, none⟩ (.int .i64 zz)).setCell ⟨w.heap.size, 2, none⟩ (.int .i64 0)).setCell ⟨w.heap.size, 3, none⟩ (.int .i64 0)).alloc (.cells (exR x) 41)) (.cells (exR x) 41)
    simpa only [World.size_alloc, World.size_setCell] using this)
  have HB3 := Lib.hid (((HB2.out.setP (k := 0) rfl b o c zz).alloc (.cells (exR x) 41)).alloc (.cells (exR x) 41))
  obtain ⟨g, hg⟩ : ∃ g, g = w2.heap.size + 1 := ⟨_, rfl⟩
  rw [← hg] at HS3 ⊢
  generalize ((((((w2.setCell ⟨w.heap.size, 0, none⟩ (.slice (some ⟨b, o, none⟩) 15 c)).setCell ⟨w.heap.size, 1, none⟩ (.int .i64 zz)).setCell ⟨w.heap.size, 2, none⟩ (.int .i64 0)).setCell ⟨w.heap.size, 3, none⟩ (.int .i64 0)).alloc (.cells (exR x) 41)).alloc (.cells (exR x) 41)) = w3 at HS3 HB3 ⊢
  clear hg hz2 HX HB2 la ra0 ra1 ra2 ra3 fa0 fa1 fa2 fa3
  go_loopw [5] (fun v wr => v = .slice (some ⟨g, 0, none⟩) 1 1 ∧ Hid (BX w [.cells (pC b o c zz) 99, .cells pZ 99] wr) ∧ Hid (SX (w.heap.size + 2) wr (some ⟨g, 0, none⟩) x)) (fun _ _ => 0)
  case atStart => exact ⟨rfl, HB3, HS3⟩
  case round =>
    clear HB3 HS3
    obtain ⟨rfl, HB, HS⟩ := hrel
    obtain ⟨wo, rfl⟩ : ∃ wo : World, wo = wr := ⟨_, rfl⟩
    obtain ⟨lb, rb0, rb1, rb2, rb3, fb0, fb1, fb2, fb3⟩ := HB.out.p4 0 rfl
    simp only [Nat.add_zero] at lb rb0 rb1 rb2 rb3 fb0 fb1 fb2 fb3
    go_wp2_with (first
      | (go_at_call 53; (with_reducible refine Calls.mono (HN.out _ HB.out.below) ?_); rintro e w5 ⟨rfl, hB5⟩
         have HB5 := Lib.hid (HB.out.keep hB5)
         have HS5 := Lib.hid (HS.out.far ((Far.refl _ wo).keep hB5))
         clear hB5 lb rb0 rb1 rb2 rb3 fb0 fb1 fb2 fb3
         obtain ⟨la, ra0, ra1, ra2, ra3, fa0, fa1, fa2, fa3⟩ := HB5.out.p4 0 rfl
         simp only [Nat.add_zero] at la ra0 ra1 ra2 ra3 fa0 fa1 fa2 fa3
         obtain ⟨lc, rc0, rc1, rc2, rc3, fc0, fc1, fc2, fc3⟩ := HB5.out.p4 1 rfl
)
      | fail)
    have HF := HB5.out.setP (k := 1) rfl b o c zz
    exact bodyPost_ret (res_ps (fn := Tryz.f79) rfl rfl rfl (HF.row 1 _ _ rfl)) rfl ⟨_, x, rfl, HF.below, (HS5.out.far ((Far.refl (w.heap.size + 2) w5).set4 (b := w.heap.size + 1) (by omega) (.slice (some ⟨b, o, none⟩) 15 c) (.int .i64 zz) (.int .i64 0) (.int .i64 0))).mono (by omega), HP.out⟩
end Go.Proofs.YthdmfaepjemopaaGreatDoor
namespace Go.Proofs.YthdmfaepjemopaaGreatDoor
open Go.RowKit

theorem BX.f2 {w W : World} {bs : List Obj} (h : BX w bs W) (k : Nat) {v0 v1 : Value} {ty : TypeId} (hk : bs[k]? = some (.cells #[v0, v1] ty)) : w.heap.size + k < W.heap.size ∧ W.cell? ⟨w.heap.size + k, 0, none⟩ = some v0 ∧ W.cell? ⟨w.heap.size + k, 1, none⟩ = some v1 ∧ W.frozen? ⟨w.heap.size + k, 0, none⟩ = false ∧ W.frozen? ⟨w.heap.size + k, 1, none⟩ = false := by
  have h1 := h.2 k _ hk
  exact ⟨heap_lt h1, cell_of_row _ _ 0 _ _ _ h1, cell_of_row _ _ 1 _ _ _ h1, frozen_of_row _ _ 0 _ _ h1, frozen_of_row _ _ 1 _ _ h1⟩
theorem BX.setF {w W : World} {bs : List Obj} {k : Nat} {u0 u1 : Value} {ty : TypeId} {fr : Nat × Nat} (h : BX w bs W) (hk : bs[k]? = some (.cells #[u0, u1] ty fr)) (s t : ByteArray) : BX w (bs.set k (.cells #[.string s, .string t] ty fr)) ((W.setCell ⟨w.heap.size + k, 0, none⟩ (.string s)).setCell ⟨w.heap.size + k, 1, none⟩ (.string t)) := by
  have hl := (List.getElem?_eq_some_iff.1 hk).1
  have h1 := h.set hk 0 (.string s)
  have h2 := h1.set (List.getElem?_set_self hl) 1 (.string t)
  rw [List.set_set] at h2
  exact h2
theorem res_pf {fn : Func} {i j : Nat} (h : fn.results = #[.cell i 99, .cell j 60]) {tm : Array Value} {W : World} {pb eb : Nat} (hp : tm[i]?.getD undef = .pointer (some ⟨pb, 0, none⟩)) (he : tm[j]?.getD undef = .pointer (some ⟨eb, 0, none⟩)) {v0 v1 v2 v3 u0 u1 : Value} {ty ty2 : TypeId} (h1 : W.heap[pb]? = some (.cells #[v0, v1, v2, v3] ty)) (h2 : W.heap[eb]? = some (.cells #[u0, u1] ty2)) :
    (results fn tm).run Tryz.prog W = .ok (.tuple #[.agg #[v0, v1, v2, v3], .agg #[u0, u1]]) W := by
  obtain ⟨a0, a1, a2, a3⟩ := row4 h1
  have b0 := cell_of_row _ _ 0 _ _ _ h2
  have b1 := cell_of_row _ _ 1 _ _ _ h2
  simp [results, h, go_sem, hp, he, a0, a1, a2, a3, b0, b1]
set_option maxHeartbeats 16000000 in
theorem from_yes (b o c i : Nat) (z : Int) (hz : z = i) (s : ByteArray) (p : Int) (w : World) (hT : TksAt w b o) (ht : tks[i]? = some (1, s, p)) (hi : i < 14) (hd : nx (i + 1) ⟨#[65, 83]⟩ = false) : Calls Tryz.prog 94 #[pV b o c z] w (RetV (.tuple #[pV b o c (z + 1), .agg #[.string s, .string s]]) w) := by
  have HN := Lib.hid (show ∀ W, Below w.heap.size w W → Calls Tryz.prog 58 #[pV b o c z] W (RetV (.tuple #[pV b o c (z + 1), .string s]) W) from fun W hB => name_yes b o c i z hz s p W (hT.keep hB) ht)
  have HM := Lib.hid (show ∀ W, Below w.heap.size w W → Calls Tryz.prog 31 #[pV b o c (z + 1), .string ⟨#[65, 83]⟩] W (RetV (.tuple #[pV b o c (z + 1), .bool false]) W) from fun W hB => may_no b o c (i + 1) (z + 1) (by omega) _ W (hT.keep hB) (by omega) hd)
  clear hT ht hd
  have hz0 : 0 ≤ z := by omega
  have hz15 : z < 14 := by omega
  clear hz hi
  go_enter Tryz.func94, Tryz.ntmps94
  go_wp2_with (first
    | (go_at_call 58; (with_reducible refine Calls.mono (HN.out _ (BX.four w _ _ _ _).below) ?_); rintro e w2 ⟨rfl, hB2⟩
       have HB2 := Lib.hid ((BX.four w _ _ _ _).keep hB2)
       obtain ⟨la, ra0, ra1, ra2, ra3, fa0, fa1, fa2, fa3⟩ := HB2.out.p4 0 rfl
       simp only [Nat.add_zero] at la ra0 ra1 ra2 ra3 fa0 fa1 fa2 fa3
       obtain ⟨ld, rd0, rd1, fd0, fd1⟩ := HB2.out.f2 3 rfl
       simp only [plus3] at ld rd0 rd1 fd0 fd1
       clear hB2)
    | (go_at_call 31; (with_reducible refine Calls.mono (HM.out _ ?hbw) ?_); (case hbw => exact ((HB2.out.setP (k := 0) rfl b o c (z + 1)).setF (k := 3) rfl s s).below); rintro e w4 ⟨rfl, hB4⟩
       have HB4 := Lib.hid (((HB2.out.setP (k := 0) rfl b o c (z + 1)).setF (k := 3) rfl s s).keep hB4)
       clear la ra0 ra1 ra2 ra3 fa0 fa1 fa2 fa3 ld rd0 rd1 fd0 fd1 HB2 hB4
       obtain ⟨lb, rb0, rb1, rb2, rb3, fb0, fb1, fb2, fb3⟩ := HB4.out.p4 1 rfl
       obtain ⟨lc, rc0, rc1, fc0, fc1⟩ := HB4.out.f2 2 rfl
       obtain ⟨ld, rd0, rd1, fd0, fd1⟩ := HB4.out.f2 3 rfl
       simp only [plus2, plus3] at lc rc0 rc1 fc0 fc1 ld rd0 rd1 fd0 fd1)
    | fail)
  go_region
  all_goals (
    rename_i K hK
    have HF := (((HB4.out.setP (k := 1) rfl b o c (z + 1)).setF (k := 2) rfl s s).alloc (.cells (pC b o c (z + 1)) 99)).drew
    exact hK _ _ (wp_ret (bodyPost_ret (res_pf (fn := Tryz.f94) rfl rfl rfl (HF.row 1 _ _ rfl) (HF.row 2 _ _ rfl)) rfl ⟨rfl, HF.below⟩)))
end Go.Proofs.YthdmfaepjemopaaGreatDoor
