/- A region that draws its order and appends to several rows of the call's own, one new element to each. -/
import Derived.Test.YthdmfaepjemopaaGreatDoorQAJ
import Derived.Test.YthdmfaepjemopaaGreatDoorQAS
namespace Go.Proofs.YthdmfaepjemopaaGreatDoor
open Go.RowKit

structure Rw where
  e : Nat
  K : Nat
  v : Value
  n : Nat
  xs : List Value
def OwnF (base : Nat) (R : Nat → Option Rw) (W : World) : Prop := (∀ k r, R k = some r → W.ownsRow base r.e r.K r.v r.n r.xs) ∧ ∀ k l r s, k ≠ l → R k = some r → R l = some s → ∀ b, r.v.ownBlock = some b → s.v.ownBlock ≠ some b
theorem OwnF.keep {base : Nat} {R : Nat → Option Rw} {W W' : World} (h : OwnF base R W) (hB : Below W.heap.size W W') : OwnF base R W' := ⟨fun k r hr => own_kept (h.1 k r hr) hB (Nat.le_refl _), h.2⟩
theorem OwnF.far {base : Nat} {R : Nat → Option Rw} {W : World} (h : OwnF base R W) {b i : Nat} (hb : b < base) (u : Value) : OwnF base R (W.setCell ⟨b, i, none⟩ u) := ⟨fun k r hr => own_far (h.1 k r hr) hb u, h.2⟩
theorem own_grown {W W' : World} {base e K n : Nat} {v : Value} {xs : List Value} (h : W.ownsRow base e K v n xs) {r : Option Nat} (hg : W.grownBy W' r) (hr : ∀ b, v.ownBlock = some b → some b ≠ r) : W'.ownsRow base e K v n xs :=
  ⟨h.1, h.2.imp id fun ⟨g, cap, cur, e1, e2, e3, e4⟩ => ⟨g, cap, cur, e1, e2, (hg.block _ (heap_lt e3) (hr g (by rw [e1]; rfl))).trans e3, e4⟩⟩
theorem OwnF.put {base : Nat} {R : Nat → Option Rw} {W W' : World} (h : OwnF base R W) {k : Nat} {r r' : Rw} (hk : R k = some r) (hown : W'.ownsRow base r'.e r'.K r'.v r'.n r'.xs) (hg : W.grownBy W' r.v.ownBlock) (hv : r'.v.ownBlock = r.v.ownBlock ∨ r'.v.ownBlock = some W.heap.size) : OwnF base (fun j => if j = k then some r' else R j) W' := by
  have hnew : ∀ l s, l ≠ k → R l = some s → ∀ b, s.v.ownBlock = some b → r'.v.ownBlock ≠ some b := fun l s hl hs b hb e => by
    rcases hv with hv | hv
    · rw [hv] at e
      exact h.2 l k s r hl hs hk b hb e
    · rw [hv] at e
      have := (own_base (h.1 l s hs) b hb).2
      have := Option.some.inj e
      omega
  refine ⟨fun j s hs => ?_, fun j l s t hjl hs ht b hb e => ?_⟩
  · dsimp only at hs
    split at hs
    · cases hs; exact hown
    · rename_i hj
      exact own_grown (h.1 j s hs) hg (fun b hb e => h.2 j k s r hj hs hk b hb e.symm)
  · dsimp only at hs ht
    split at hs
    · cases hs
      split at ht
      · rename_i h1 h2; exact hjl (h1.trans h2.symm)
      · rename_i hl; exact hnew l t hl ht b e hb
    · rename_i hj
      split at ht
      · cases ht; exact hnew j s hj hs b hb e
      · exact h.2 j l s t hjl hs ht b hb e
theorem OwnF.add {base : Nat} {R : Nat → Option Rw} {W : World} (h : OwnF base R W) {k : Nat} (_hk : R k = none) (hb : base ≤ W.heap.size) (e K : Nat) (us : List Value) (hl : us.length = K) : OwnF base (fun j => if j = k then some ⟨e, K, .slice (some ⟨W.heap.size, 0, none⟩) 1 1, 1, us⟩ else R j) (W.alloc (.cells us.toArray e)) := by
  have hnew : ∀ l s, R l = some s → ∀ b, s.v.ownBlock = some b → b < W.heap.size := fun l s hs b hb => (own_base (h.1 l s hs) b hb).2
  refine ⟨fun j s hs => ?_, fun j l s t hjl hs ht b hb e => ?_⟩
  · dsimp only at hs
    split at hs
    · cases hs
      refine ⟨by show us.length = 1 * K; omega, Or.inr ⟨W.heap.size, 1, us.toArray, rfl, hb, heap_alloc_new W _, Nat.le_refl _, by unfold maxLen; omega, by show us.length = 1 * K; omega, ?_⟩⟩
      show us.take (1 * K) = us
      exact List.take_of_length_le (by omega)
    · exact own_kept (h.1 j s hs) (below1 W _) (Nat.le_refl _)
  · dsimp only at hs ht
    split at hs
    · cases hs
      split at ht
      · rename_i h1 h2; exact hjl (h1.trans h2.symm)
      · have h1 := hnew l t ht b e
        have h2 : some W.heap.size = some b := hb
        have := Option.some.inj h2
        omega
    · split at ht
      · cases ht
        have h1 := hnew j s hs b hb
        have h2 : some W.heap.size = some b := e
        have := Option.some.inj h2
        omega
      · exact h.2 j l s t hjl hs ht b hb e
structure Ch where
  iB : Nat
  iA : Nat
  T : Nat
  r : Rw
  us : List Value
def Ch.new (c : Ch) (v : Value) : Rw := ⟨c.r.e, c.r.K, v, c.r.n + 1, c.r.xs ++ c.us⟩
def Ch.tmp (c : Ch) (v : Value) : Rw := ⟨c.r.e, c.r.K, v, 1, c.us⟩
def parR (cs : List Ch) (rs : List Rw) (st : Done) : Nat → Option Rw := fun k => match cs[k / 2]? with
  | some c => if k % 2 = 0 then some (match st c.iA with | some v => c.new v | none => c.r) else (match st c.iB with | some v => some (c.tmp v) | none => none)
  | none => rs[k - 2 * cs.length]?
theorem parR_pure {cs : List Ch} {rs : List Rw} {st : Done} {i : Nat} {v : Value} (hi : ∀ c ∈ cs, c.iA ≠ i ∧ c.iB ≠ i) : parR cs rs (st.set i v) = parR cs rs st := by
  funext k
  unfold parR
  cases hc : cs[k / 2]? with
  | none => rfl
  | some c =>
    have := hi c (List.mem_of_getElem? hc)
    dsimp only
    unfold Done.set
    rw [if_neg this.1, if_neg this.2]
def ChOk (cs : List Ch) : Prop := ∀ (i j : Nat) (c d : Ch), cs[i]? = some c → cs[j]? = some d → c.iA ≠ d.iB ∧ (i ≠ j → c.iA ≠ d.iA ∧ c.iB ≠ d.iB)
theorem parR_build {cs : List Ch} {rs : List Rw} {st : Done} (hok : ChOk cs) {i : Nat} {c : Ch} (hc : cs[i]? = some c) (v : Value) : parR cs rs (st.set c.iB v) = fun k => if k = 2 * i + 1 then some (c.tmp v) else parR cs rs st k := by
  funext k
  by_cases hk : k = 2 * i + 1
  · rw [if_pos hk]
    unfold parR
    rw [show k / 2 = i by omega, hc]
    dsimp only
    rw [if_neg (by omega)]
    unfold Done.set
    rw [if_pos rfl]
  · rw [if_neg hk]
    unfold parR
    cases hd : cs[k / 2]? with
    | none => rfl
    | some d =>
      dsimp only
      have h1 := (hok _ _ d c hd hc).1
      unfold Done.set
      rw [if_neg h1]
      by_cases he : k % 2 = 0
      · rw [if_pos he, if_pos he]
      · rw [if_neg he, if_neg he, if_neg ((hok _ _ d c hd hc).2 (by omega)).2]
theorem parR_app {cs : List Ch} {rs : List Rw} {st : Done} (hok : ChOk cs) {i : Nat} {c : Ch} (hc : cs[i]? = some c) (v : Value) : parR cs rs (st.set c.iA v) = fun k => if k = 2 * i then some (c.new v) else parR cs rs st k := by
  funext k
  by_cases hk : k = 2 * i
  · rw [if_pos hk]
    unfold parR
    rw [show k / 2 = i by omega, hc]
    dsimp only
    rw [if_pos (by omega)]
    unfold Done.set
    rw [if_pos rfl]
  · rw [if_neg hk]
    unfold parR
    cases hd : cs[k / 2]? with
    | none => rfl
    | some d =>
      dsimp only
      have h1 := (hok _ _ c d hc hd).1
      unfold Done.set
      by_cases he : k % 2 = 0
      · rw [if_pos he, if_pos he, if_neg (fun e => ((hok _ _ d c hd hc).2 (by omega)).1 e)]
      · rw [if_neg he, if_neg he, if_neg (fun e => h1 e.symm)]
theorem app_wp (T E K B : Nat) (z : Value) (hT : Tryz.prog.underlying T = some (.slice E)) (hI : (Tryz.prog.info? E).map (fun i => (i.zero, i.size, i.bytes)) = some (some z, K, B)) (hzK : z.cells.size = K) (hK0 : 0 < K) (hB : B ≤ 1000)
    (w : World) {o : Oper} {a : Act} {R : Act → World → Prop} {Q : Exit → Act → World → Prop} (s x : Operand)
    (ho : o.op = .call { callee := .builtin .append, args := #[s, x], argTypes := #[T, T] }) (base : Nat) (v : Value) (n : Nat) (xs : List Value) (hv : a.eval s = v) (hown : w.ownsRow base E K v n xs)
    (y : Value) (us : List Value) (hus : us.length = K) (hone : us.all Value.oneCell' = true) (hx : a.eval x = y) (hy : w.ownsRow base E K y 1 us) (hl : n ≤ 100000) (hbase : base ≤ w.heap.size)
    (h : ∀ v' w', w'.ownsRow base E K v' (n + 1) (xs ++ us) → w.grownBy w' v.ownBlock → (v'.ownBlock = v.ownBlock ∨ v'.ownBlock = some w.heap.size) → R (a.put o.dst v') w') : Oper.wp Tryz.prog o a w R Q := by
  obtain ⟨i0, hi0, hz0, hz1, hz2⟩ := info_parts hI
  obtain ⟨g, c, rfl, _, _, hc⟩ := own_take hy (by omega)
  obtain ⟨v', w', hrun, g2, g3, _, g5⟩ := run_append_own_at (P := Tryz.prog) w base T o.type E i0 z K B hT hi0 hz0 hz1 hz2 hzK hK0 v n xs hown ⟨g, 0, none⟩ 1 c us (by omega)
    (fun j u hj => by rw [Addr.add_lit, Nat.zero_add]; exact hc j u hj)
    (fun u hu => List.all_eq_true.1 hone u hu) (by unfold maxLen; omega) (Nat.le_trans (Nat.mul_le_mul (show n + 1 ≤ 100001 by omega) hB) (by omega)) hbase
  unfold Oper.wp
  simp only [execOp, ho, resolve, invoke, builtin, Sem.run_bind, Sem.run_pure, Result.andThen_ok, List.map_toArray, List.map_cons, List.map_nil, hv, hx, hrun]
  exact h v' w' g2 g3 g5
structure Steady (base : Nat) (C : World → Prop) : Prop where
  keep : ∀ {W W' : World}, C W → Below W.heap.size W W' → C W'
  grown : ∀ {W W' : World} {r : Option Nat}, C W → W.grownBy W' r → (∀ b, r = some b → base ≤ b) → C W'
  size : ∀ {W : World}, C W → base ≤ W.heap.size
structure ParJ (base : Nat) (C : World → Prop) (cs : List Ch) (rs : List Rw) (pv : Nat → Option Value) (st : Done) (w : World) : Prop where
  c : C w
  own : OwnF base (parR cs rs st) w
  pure : ∀ j x v, pv j = some x → st j = some v → v = x
theorem wp_region_par {ops : Array Oper} {Q : Exit → Act → World → Prop} {n0 n id : Nat} {a0 : Act} {w0 : World} {base : Nat} {C : World → Prop} (hC : Steady base C) (cs : List Ch) (rs : List Rw) (pv : Nat → Option Value) (hok : ChOk cs)
    (hm : Tryz.prog.follows .mixedOrders = true) (hf : regionT ops n0 n = true) (hn : n ≤ a0.tmps.size) (h0 : C w0) (hown0 : OwnF base (parR cs rs fun _ => none) w0)
    (hkind : ∀ i, i < n0 → (∃ x, pv i = some x ∧ ∀ c ∈ cs, c.iA ≠ i ∧ c.iB ≠ i) ∨ ∃ (k : Nat) (c : Ch), cs[k]? = some c ∧ pv i = none ∧ (c.iB = i ∨ c.iA = i))
    (hpure : ∀ i o x, i < n0 → pv i = some x → ops[i]? = some o → ∀ a w, SameBut ops n0 a0 a → C w → (∀ r ∈ rs, w.ownsRow base r.e r.K r.v r.n r.xs) → (∀ e ∈ o.after, Region.binds .any e = true → ∀ y, pv e.on = some y → leftAt ops a e.on = y) → Oper.wp Tryz.prog o a w (fun a' w' => a' = a.put o.dst x ∧ w' = w) Q)
    (hdst : ∀ i o, i < n0 → ops[i]? = some o → o.dst ≠ none)
    (hbuild : ∀ (k : Nat) (c : Ch) o, cs[k]? = some c → ops[c.iB]? = some o → ∀ a w, SameBut ops n0 a0 a → C w → (∀ e ∈ o.after, Region.binds .any e = true → ∀ y, pv e.on = some y → leftAt ops a e.on = y) → Oper.wp Tryz.prog o a w (fun a' w' => a' = a.put o.dst (.slice (some ⟨w.heap.size, 0, none⟩) 1 1) ∧ w' = w.alloc (.cells c.us.toArray c.r.e)) Q)
    (hus : ∀ c ∈ cs, c.us.length = c.r.K) (hlt : ∀ c ∈ cs, c.iA < n0 ∧ c.iB < n0)
    (happ : ∀ (k : Nat) (c : Ch) o, cs[k]? = some c → ops[c.iA]? = some o → ∀ a w (R : Act → World → Prop) y, SameBut ops n0 a0 a → C w → (∀ e ∈ o.after, Region.binds .any e = true → ∀ y, pv e.on = some y → leftAt ops a e.on = y) → leftAt ops a c.iB = y → (∃ e ∈ o.after, Region.binds .any e = true ∧ e.on = c.iB) → w.ownsRow base c.r.e c.r.K c.r.v c.r.n c.r.xs → w.ownsRow base c.r.e c.r.K y 1 c.us →
      (∀ v' w', w'.ownsRow base c.r.e c.r.K v' (c.r.n + 1) (c.r.xs ++ c.us) → w.grownBy w' c.r.v.ownBlock → (v'.ownBlock = c.r.v.ownBlock ∨ v'.ownBlock = some w.heap.size) → R (a.put o.dst v') w') → Oper.wp Tryz.prog o a w R Q)
    (hdep : ∀ (k : Nat) (c : Ch) o, cs[k]? = some c → ops[c.iA]? = some o → ∃ e ∈ o.after, Region.binds .any e = true ∧ e.on = c.iB)
    (hend : ∀ a w, SameBut ops n0 a0 a → C w → OwnF base (parR cs rs fun j => some (leftAt ops a j)) w → (∀ j x, j < n0 → pv j = some x → leftAt ops a j = x) → wpList Tryz.prog ops Q (ops.toList.drop n0) a w) :
    (Code.region id ops true).wp Tryz.prog Q a0 w0 := by
  refine wp_region_T (n0 := n0) (n := n) (ParJ base C cs rs pv) hm hf hn ⟨hC.keep h0 (Below.refl _ _).drew, hown0.keep (Below.refl _ _).drew, fun j x v _ h => by cases h⟩ (fun i o hi ho st a w hsb hJ hnone hde => ?_) (fun st a w hsb hJ hall => ?_)
  · have hdst' := hdst i o hi ho
    have hpv : ∀ e ∈ o.after, Region.binds .any e = true → ∀ y, pv e.on = some y → leftAt ops a e.on = y := fun e he hb y hy => hJ.pure e.on y _ hy (hde e he hb)
    have hstat : ∀ r ∈ rs, w.ownsRow base r.e r.K r.v r.n r.xs := fun r hr => by
      obtain ⟨m, hm⟩ := List.mem_iff_getElem?.1 hr
      refine hJ.own.1 (2 * cs.length + m) r ?_
      unfold parR
      rw [List.getElem?_eq_none (by omega)]
      dsimp only
      rw [show 2 * cs.length + m - 2 * cs.length = m by omega]
      exact hm
    have hdv : ∀ v, dstVal o v = v := fun v => by
      unfold dstVal
      cases hd : o.dst with
      | none => exact absurd hd hdst'
      | some d => rfl
    rcases hkind i hi with ⟨x, hx, hno⟩ | ⟨k, c, hck, hpn, hbc⟩
    · refine Oper.wp_mono (fun a' w' ⟨h1, h2⟩ => ?_) (hpure i o x hi hx ho a w hsb hJ.c hstat hpv)
      subst h2
      refine ⟨x, h1, hJ.c, ?_, fun j y v hy hv => ?_⟩
      · rw [hdv, parR_pure hno]
        exact hJ.own
      · unfold Done.set at hv
        split at hv
        · rename_i hj
          subst hj
          rw [hx] at hy
          cases hy
          rw [hdv] at hv
          exact (Option.some.inj hv).symm
        · exact hJ.pure j y v hy hv
    · have hp' : ∀ (u : Value) j y v, pv j = some y → (st.set i (dstVal o u)) j = some v → v = y := fun u j y v hy hv => by
        unfold Done.set at hv
        split at hv
        · rename_i hj
          subst hj
          rw [hpn] at hy
          cases hy
        · exact hJ.pure j y v hy hv
      rcases hbc with rfl | rfl
      · have hsz := hC.size hJ.c
        have hkn : parR cs rs st (2 * k + 1) = none := by
          unfold parR
          rw [show (2 * k + 1) / 2 = k by omega, hck]
          dsimp only
          rw [if_neg (by omega), hnone]
        refine Oper.wp_mono (fun a' w' ⟨h1, h2⟩ => ?_) (hbuild k c o hck ho a w hsb hJ.c hpv)
        subst h2
        refine ⟨_, h1, hC.keep hJ.c (below1 w _), ?_, hp' _⟩
        rw [hdv, parR_build hok hck]
        exact hJ.own.add hkn hsz c.r.e c.r.K c.us (hus c (List.mem_of_getElem? hck))
      · obtain ⟨e, he, hb, hon⟩ := hdep k c o hck ho
        have hstB : st c.iB = some (leftAt ops a c.iB) := by rw [← hon]; exact hde e he hb
        have hr : parR cs rs st (2 * k) = some c.r := by
          unfold parR
          rw [show (2 * k) / 2 = k by omega, hck]
          dsimp only
          rw [if_pos (by omega), hnone]
        have ht : parR cs rs st (2 * k + 1) = some (c.tmp (leftAt ops a c.iB)) := by
          unfold parR
          rw [show (2 * k + 1) / 2 = k by omega, hck]
          dsimp only
          rw [if_neg (by omega), hstB]
        refine happ k c o hck ho a w _ _ hsb hJ.c hpv rfl ⟨e, he, hb, hon⟩ (hJ.own.1 _ _ hr) (hJ.own.1 _ _ ht) (fun v' w' h1 h2 h3 => ?_)
        refine ⟨v', rfl, hC.grown hJ.c h2 (fun b hb => (own_base (hJ.own.1 _ _ hr) b hb).1), ?_, hp' _⟩
        rw [hdv, parR_app hok hck]
        exact hJ.own.put hr h1 h2 h3
  · have hle := (regionT_spec hf).1
    refine hend a w hsb hJ.c ?_ (fun j x hj hx => hJ.pure j x _ hx (hall j hj))
    have e : parR cs rs st = parR cs rs fun j => some (leftAt ops a j) := by
      funext k
      unfold parR
      cases hck : cs[k / 2]? with
      | none => rfl
      | some c =>
        have hA : c.iA < n0 ∧ c.iB < n0 := by
          exact hlt c (List.mem_of_getElem? hck)
        dsimp only
        rw [hall _ hA.1, hall _ hA.2]
    rw [← e]
    exact hJ.own
theorem OwnF.re {base : Nat} {R R' : Nat → Option Rw} {W : World} (h : OwnF base R W) (f : Nat → Nat) (hf : ∀ k l r s, k ≠ l → R' k = some r → R' l = some s → f k ≠ f l) (hR : ∀ k r, R' k = some r → R (f k) = some r) : OwnF base R' W :=
  ⟨fun k r hr => h.1 (f k) r (hR k r hr), fun k l r s hkl hr hs => h.2 (f k) (f l) r s (hf k l r s hkl hr hs) (hR k r hr) (hR l s hs)⟩
def OwnL (base : Nat) (L : List Rw) (W : World) : Prop := OwnF base (fun k => L[k]?) W
theorem OwnL.par {base : Nat} {cs : List Ch} {rs : List Rw} {W : World} (h : OwnL base (cs.map Ch.r ++ rs) W) : OwnF base (parR cs rs fun _ => none) W := by
  refine OwnF.re h (fun k => if k < 2 * cs.length then k / 2 else k - cs.length) (fun k l r s hkl hr hs => ?_) (fun k r hr => ?_)
  · have key : ∀ k r, parR cs rs (fun _ => none) k = some r → k < 2 * cs.length → k % 2 = 0 := fun k r hr hk => by
      unfold parR at hr
      rw [List.getElem?_eq_getElem (show k / 2 < cs.length by omega)] at hr
      dsimp only at hr
      split at hr
      · assumption
      · cases hr
    have h1 := key k r hr
    have h2 := key l s hs
    (try dsimp only)
    split <;> split <;> omega
  · unfold parR at hr
    (try dsimp only)
    by_cases hk : k < 2 * cs.length
    · rw [if_pos hk]
      have hk2 : k / 2 < cs.length := by omega
      rw [List.getElem?_eq_getElem hk2] at hr
      dsimp only at hr
      rw [List.getElem?_append_left (by rw [List.length_map]; exact hk2), List.getElem?_map, List.getElem?_eq_getElem hk2]
      split at hr
      · exact hr
      · cases hr
    · rw [if_neg hk]
      rw [List.getElem?_eq_none (show cs.length ≤ k / 2 by omega)] at hr
      dsimp only at hr
      rw [List.getElem?_append_right (by rw [List.length_map]; omega), List.length_map]
      rw [← hr]
      congr 1
      omega
theorem par_list {base : Nat} {cs : List Ch} {rs : List Rw} {g : Nat → Value} {W : World} (h : OwnF base (parR cs rs fun j => some (g j)) W) : OwnL base ((cs.map fun c => c.new (g c.iA)) ++ rs) W := by
  refine OwnF.re h (fun k => if k < cs.length then 2 * k else k + cs.length) (fun k l r s hkl hr hs => ?_) (fun k r hr => ?_)
  · (try dsimp only)
    split <;> split <;> omega
  · (try dsimp only at hr ⊢)
    unfold parR
    by_cases hk : k < cs.length
    · rw [if_pos hk]
      rw [List.getElem?_append_left (by rw [List.length_map]; exact hk), List.getElem?_map, List.getElem?_eq_getElem hk] at hr
      rw [show 2 * k / 2 = k by omega, List.getElem?_eq_getElem hk]
      dsimp only
      rw [if_pos (by omega)]
      exact hr
    · rw [if_neg hk]
      rw [List.getElem?_append_right (by rw [List.length_map]; omega), List.length_map] at hr
      rw [List.getElem?_eq_none (show cs.length ≤ (k + cs.length) / 2 by omega)]
      dsimp only
      rw [← hr]
      congr 1
      omega
def chOkB (l : List (Nat × Nat)) : Bool := (List.range l.length).all fun i => (List.range l.length).all fun j => match l[i]?, l[j]? with
  | some p, some q => (p.1 != q.2) && (i == j || ((p.1 != q.1) && (p.2 != q.2)))
  | _, _ => true
theorem chOk_of {cs : List Ch} (h : chOkB (cs.map fun c => (c.iA, c.iB)) = true) : ChOk cs := by
  intro i j c d hi hj
  have h1 := List.all_eq_true.1 h i (List.mem_range.2 (by rw [List.length_map]; exact (List.getElem?_eq_some_iff.1 hi).1))
  have h2 := List.all_eq_true.1 h1 j (List.mem_range.2 (by rw [List.length_map]; exact (List.getElem?_eq_some_iff.1 hj).1))
  rw [List.getElem?_map, List.getElem?_map, hi, hj] at h2
  simp only [Option.map_some, Bool.and_eq_true, Bool.or_eq_true, bne_iff_ne, beq_iff_eq] at h2
  exact ⟨h2.1, fun hij => h2.2.elim (fun h => absurd h hij) id⟩
theorem steady_cm (w : World) (sr xr qr cr : Array Value) : Steady (w.heap.size + 5) (CM w sr xr qr cr) := ⟨fun h hB => h.keep hB, fun h hg hr => h.grown hg hr, fun h => h.lt⟩
def findR : Nat → Nat → Code → Option Code
  | 0, _, _ => none
  | f + 1, k, c => match c with
    | .region i os d => if i = k then some (.region i os d) else none
    | .seq a b => match findR f k a with
      | some c => some c
      | none => findR f k b
    | .cond _ a b => match findR f k a with
      | some c => some c
      | none => findR f k b
    | .block _ c => findR f k c
    | .loop c => findR f k c
    | .scope c => findR f k c
    | _ => none
noncomputable def regC (k : Nat) : Code := (findR 60 k (Tryz.f22.body.getD .skip)).getD .skip
end Go.Proofs.YthdmfaepjemopaaGreatDoor
