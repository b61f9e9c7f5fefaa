/- A region that draws its order and makes memory in many places: one proof for each operation, whatever the order. -/
import Derived.Test.YtcnkghcdjicldaaOwn
import Derived.Orders
namespace Go.Proofs.Ytcnkghcdjicldaa
open Go.RowKit

section
variable {P : Program} {ops : Array Oper} {Q : Exit → Act → World → Prop}

/-- what an operation has left in its slot -/
def valAt (ops : Array Oper) (a : Act) (j : Nat) : Value := match (ops[j]?).bind (·.dst) with
  | some d => a.tmps.getD d undef
  | none => undef
/-- a state that differs from the first one in the slots of operations alone -/
def SameBut (ops : Array Oper) (last : Nat) (a0 a : Act) : Prop :=
  a.defers = a0.defers ∧ a.tmps.size = a0.tmps.size ∧ ∀ t, (∀ j, j < last → (ops[j]?).bind (·.dst) ≠ some t) → a.tmps.getD t undef = a0.tmps.getD t undef
/-- the region's form: the last one waits for all others; each of the others has a slot of its own -/
def regionB (ops : Array Oper) (last n : Nat) : Bool :=
  (ops.size == last + 1) && (List.range (last + 1)).all (fun i => match ops[i]? with
    | none => false
    | some o => o.guard.isNone && o.after.all (fun e => !Region.binds .any e || decide (e.on < i)) &&
      (i == last || ((match o.dst with | some d => decide (d < n) | none => false) &&
        (List.range (last + 1)).any (fun k => decide (i < k) && (match ops[k]? with | some o' => o'.after.any (fun e => Region.binds .any e && e.on == i) | none => false)) &&
        (List.range last).all (fun j => j == i || (ops[j]?).bind (·.dst) != o.dst))))
theorem regionB_spec {last n : Nat} (h : regionB ops last n = true) : ops.size = last + 1 ∧ ∀ i, i ≤ last → ∃ o, ops[i]? = some o ∧ o.guard = none ∧ (∀ e ∈ o.after, Region.binds .any e = true → e.on < i) ∧
    (i < last → (∃ d, o.dst = some d ∧ d < n) ∧ (∃ k o', i < k ∧ k ≤ last ∧ ops[k]? = some o' ∧ ∃ e ∈ o'.after, Region.binds .any e = true ∧ e.on = i) ∧ ∀ j, j < last → j ≠ i → (ops[j]?).bind (·.dst) ≠ o.dst) := by
  unfold regionB at h
  rw [Bool.and_eq_true] at h
  obtain ⟨h1, h2⟩ := h
  refine ⟨by simpa using h1, fun i hi => ?_⟩
  have := List.all_eq_true.1 h2 i (List.mem_range.2 (by omega))
  cases ho : ops[i]? with
  | none => rw [ho] at this; simp at this
  | some o =>
    rw [ho] at this
    simp only [Bool.and_eq_true, Bool.or_eq_true] at this
    obtain ⟨⟨g1, g2⟩, g3⟩ := this
    refine ⟨o, rfl, by simpa using g1, fun e he hb => ?_, fun hlt => ?_⟩
    · have := Array.all_eq_true_iff_forall_mem.1 g2 e he
      rw [hb] at this
      simpa using this
    · rcases g3 with g3 | ⟨⟨g3, g4⟩, g5⟩
      · have : i = last := by simpa using g3
        omega
      · refine ⟨?_, ?_, fun j hj hji => ?_⟩
        · cases hd : o.dst with
          | none => rw [hd] at g3; simp at g3
          | some d => rw [hd] at g3; exact ⟨d, rfl, by simpa using g3⟩
        · obtain ⟨k, hk, g6⟩ := List.any_eq_true.1 g4
          rw [Bool.and_eq_true] at g6
          obtain ⟨g6, g7⟩ := g6
          cases hk' : ops[k]? with
          | none => rw [hk'] at g7; simp at g7
          | some o' =>
            rw [hk'] at g7
            simp only [] at g7
            rw [Array.any_eq_true] at g7
            obtain ⟨x, hx, g8⟩ := g7
            rw [Bool.and_eq_true] at g8
            exact ⟨k, o', by simpa using g6, by have := List.mem_range.1 hk; omega, hk', o'.after[x], Array.getElem_mem hx, g8.1, by simpa using g8.2⟩
        · have := List.all_eq_true.1 g5 j (List.mem_range.2 hj)
          rw [Bool.or_eq_true] at this
          rcases this with h | h
          · exact absurd (by simpa using h) hji
          · simpa using h

theorem getD_true_of_false {listed : Array Bool} {j : Nat} (h : listed.getD j true = false) : listed.getD j false = false ∧ j < listed.size := by
  rcases Nat.lt_or_ge j listed.size with h' | h'
  · simp [h'] at h ⊢; exact h
  · simp [Array.getElem?_eq_none h'] at h
theorem getD_set_self {listed : Array Bool} {i : Nat} (h : i < listed.size) : (listed.setIfInBounds i true).getD i false = true := by
  simp [h]
/-- what an operation leaves: a value in its slot, and more memory -/
def StepQ (a : Act) (w : World) (dst : Option Tmp) (D : Value → World → Prop) (a' : Act) (w' : World) : Prop := ∃ v, a' = a.put dst v ∧ Below w.heap.size w w' ∧ D v w'
/-- what holds between two operations of the region -/
def RInv (ops : Array Oper) (Q : Exit → Act → World → Prop) (last : Nat) (a0 : Act) (w0 : World) (B : Nat) (D : Nat → Value → World → Prop) (listed : Array Bool) (a : Act) (w : World) : Prop :=
  listed.size = ops.size ∧
  (∀ k o, ops[k]? = some o → listed.getD k false = true → ∀ e ∈ o.after, Region.binds .any e = true → listed.getD e.on false = true) ∧
  (listed.getD last false = true → Q .normal a w) ∧
  (listed.getD last false = false → SameBut ops last a0 a ∧ Below B w0 w ∧ ∀ j, j < last → listed.getD j false = true → D j (valAt ops a j) w)

theorem rinv_any {last n : Nat} {a0 : Act} {w0 : World} {B : Nat} {D : Nat → Value → World → Prop} (hf : regionB ops last n = true) (hn : n ≤ a0.tmps.size) (hw0 : B ≤ w0.heap.size)
    (hmono : ∀ i v w w', D i v w → Below w.heap.size w w' → D i v w')
    (hstep : ∀ i o, i < last → ops[i]? = some o → ∀ a w, SameBut ops last a0 a → Below B w0 w → (∀ e ∈ o.after, Region.binds .any e = true → D e.on (valAt ops a e.on) w) →
      Oper.wp P o a w (StepQ a w o.dst (D i)) Q)
    (hend : ∀ o, ops[last]? = some o → ∀ a w, SameBut ops last a0 a → Below B w0 w → (∀ j, j < last → D j (valAt ops a j) w) → Oper.wp P o a w (fun a' w' => Q .normal a' w') Q) :
    ∀ (fuel : Nat) (s : List Nat) (listed : Array Bool) (a : Act) (w : World), s.length ≤ fuel → (∀ j, j < ops.size → listed.getD j false = false → j ∈ s) → RInv ops Q last a0 w0 B D listed a w → wpAny P .any ops Q fuel listed a w := by
  obtain ⟨hsz, hall⟩ := regionB_spec hf
  -- if nothing may come up, all have come up
  have hdone : ∀ (listed : Array Bool), listed.size = ops.size → Region.ready .any ops listed = [] → ∀ j, j ≤ last → listed.getD j false = true := by
    intro listed hls hr j
    induction j using Nat.strongRecOn with
    | ind j ih =>
      intro hj
      cases hl : listed.getD j false with
      | true => rfl
      | false =>
        exfalso
        obtain ⟨o, ho, _, hlt, _⟩ := hall j hj
        have : j ∈ Region.ready .any ops listed := mem_ready.2 ⟨by
          have : j < listed.size := by omega
          simp [this] at hl ⊢; exact hl, o, ho, fun e he hb => ih e.on (hlt e he hb) (by have := hlt e he hb; omega)⟩
        rw [hr] at this; cases this
  intro fuel
  induction fuel with
  | zero =>
    intro s listed a w hs hcov ⟨hls, hcl, hQ, _⟩
    have hall' : ∀ j, j < ops.size → listed.getD j false = true := fun j hj => by
      cases hl : listed.getD j false with
      | true => rfl
      | false =>
        have := hcov j hj hl
        have hnil : s = [] := List.eq_nil_of_length_eq_zero (by omega)
        rw [hnil] at this
        cases this
    refine ⟨?_, hQ (hall' last (by omega))⟩
    cases hr : Region.ready .any ops listed with
    | nil => rfl
    | cons x xs =>
      exfalso
      have hx : x ∈ Region.ready .any ops listed := by rw [hr]; exact List.mem_cons_self
      obtain ⟨h1, o, ho, _⟩ := mem_ready.1 hx
      have h2 := (getD_true_of_false h1).1
      rw [hall' x (Array.getElem?_eq_some_iff.1 ho).1] at h2
      cases h2
  | succ fuel ih =>
    intro s listed a w hs hcov hI
    have hI' := hI
    obtain ⟨hls, hcl, hQ, hSt⟩ := hI
    refine ⟨fun hr => hQ (hdone listed hls hr last (Nat.le_refl _)), fun i hi => ?_⟩
    obtain ⟨h1, o, ho, hdep⟩ := mem_ready.1 hi
    obtain ⟨h2, hil⟩ := getD_true_of_false h1
    have hile : i ≤ last := by omega
    obtain ⟨o', ho', hg, hlt, hlast⟩ := hall i hile
    rw [ho] at ho'; cases ho'
    have hnl : listed.getD last false = false := by
      cases hl : listed.getD last false with
      | false => rfl
      | true =>
        exfalso
        -- the last one waits for all
        have hdown : ∀ m j, last - j ≤ m → j ≤ last → listed.getD j false = true := by
          intro m
          induction m with
          | zero => intro j h1 h2; have : j = last := by omega
                    rw [this]; exact hl
          | succ m ihm =>
            intro j h1 h2
            by_cases e : j = last
            · rw [e]; exact hl
            · obtain ⟨_, _, _, _, hx⟩ := hall j h2
              obtain ⟨_, ⟨k, o2, hk1, hk2, hk3, e2, he2, hb2, hon⟩, _⟩ := hx (by omega)
              rw [← hon]
              exact hcl k o2 hk3 (ihm k (by omega) hk2) e2 he2 hb2
        have := hdown (last - i) i (Nat.le_refl _) hile
        rw [this] at h2; cases h2
    obtain ⟨hsb, hbw, hD⟩ := hSt hnl
    have hcl' : ∀ k o, ops[k]? = some o → (listed.setIfInBounds i true).getD k false = true → ∀ e ∈ o.after, Region.binds .any e = true → (listed.setIfInBounds i true).getD e.on false = true := by
      intro k o2 hk hkl e he hb
      by_cases hki : k = i
      · subst hki
        rw [ho] at hk; cases hk
        exact getD_set_true (hdep e he hb)
      · rw [getD_set_ne false (Ne.symm hki)] at hkl
        exact getD_set_true (hcl k o2 hk hkl e he hb)
    have hcov' : ∀ j, j < ops.size → (listed.setIfInBounds i true).getD j false = false → j ∈ s.erase i := by
      intro j hj hjl
      by_cases hji : j = i
      · subst hji
        rw [getD_set_self hil] at hjl; cases hjl
      · rw [getD_set_ne false (Ne.symm hji)] at hjl
        exact (List.mem_erase_of_ne hji).2 (hcov j hj hjl)
    have hlen' : (s.erase i).length ≤ fuel := by
      rw [List.length_erase_of_mem (hcov i (by omega) h2)]
      omega
    have hwant : Region.wanted o (yielded ops a.tmps) = true := by simp [Region.wanted, hg]
    unfold wpOp
    rw [ho]
    simp only [hwant, if_true]
    refine .inl ?_
    by_cases hil' : i = last
    · subst hil'
      have hup : ∀ m j, i - j ≤ m → j < i → listed.getD j false = true := by
        intro m
        induction m with
        | zero => intro j h1 h2; omega
        | succ m ihm =>
          intro j h1 h2
          obtain ⟨_, _, _, _, hx⟩ := hall j (by omega)
          obtain ⟨_, ⟨k, o2, hk1, hk2, hk3, e2, he2, hb2, hon⟩, _⟩ := hx h2
          rw [← hon]
          by_cases e : k = i
          · subst e
            rw [ho] at hk3; cases hk3
            exact hdep e2 he2 hb2
          · exact hcl k o2 hk3 (ihm k (by omega) (by omega)) e2 he2 hb2
      refine Oper.wp_mono (fun a' w' hq => ?_) (hend o ho a w hsb hbw (fun j hj => hD j hj (hup (i - j) j (Nat.le_refl _) hj)))
      refine ih (s.erase i) _ a' w' hlen' hcov' ⟨by simpa using hls, hcl', fun _ => hq, fun h => ?_⟩
      rw [getD_set_self hil] at h; cases h
    · have hilt : i < last := by omega
      obtain ⟨⟨d, hd, hdn⟩, _, hdis⟩ := hlast hilt
      have hde : ∀ e ∈ o.after, Region.binds .any e = true → D e.on (valAt ops a e.on) w := fun e he hb => by
        have h5 := hlt e he hb
        exact hD e.on (by omega) (hdep e he hb)
      refine Oper.wp_mono (fun a' w' ⟨v, ha', hB', hDv⟩ => ?_) (hstep i o hilt ho a w hsb hbw hde)
      subst ha'
      have hsize : d < a.tmps.size := by rw [hsb.2.1]; exact Nat.lt_of_lt_of_le hdn hn
      refine ih (s.erase i) _ _ w' hlen' hcov' ⟨by simpa using hls, hcl', fun h => ?_, fun _ => ⟨⟨?_, ?_, ?_⟩, hbw.trans (hB'.mono (Nat.le_trans hw0 hbw.size)), ?_⟩⟩
      · rw [getD_set_ne false hil', hnl] at h; cases h
      · rw [hd]; exact hsb.1
      · rw [hd]; simp [Act.put, hsb.2.1]
      · intro t ht
        rw [← hsb.2.2 t ht, hd]
        have : d ≠ t := fun e => ht i hilt (by rw [ho, ← e]; exact hd)
        simp [Act.put, Array.getElem?_setIfInBounds_ne this]
      · intro j hj hjl
        by_cases hji : j = i
        · subst hji
          have : valAt ops (a.put o.dst v) j = v := by
            unfold valAt
            rw [ho]
            simp only [Option.bind_some, hd, Act.put]
            simp [hsize]
          rw [this]
          exact hDv
        · rw [getD_set_ne false (Ne.symm hji)] at hjl
          have hv : valAt ops (a.put o.dst v) j = valAt ops a j := by
            unfold valAt
            cases hdj : (ops[j]?).bind (·.dst) with
            | none => rfl
            | some dj =>
              have hne : d ≠ dj := fun e => hdis j hj hji (by rw [hdj, hd, e])
              simp [Act.put, hd, Array.getElem?_setIfInBounds_ne hne]
          rw [hv]
          exact hmono j _ w w' (hD j hj hjl) hB'
/-- the law -/
theorem wp_region_inv {last n id : Nat} {a0 : Act} {w0 : World} {B : Nat} (D : Nat → Value → World → Prop) (hm : P.follows .mixedOrders = true) (hf : regionB ops last n = true) (hn : n ≤ a0.tmps.size) (hw0 : B ≤ w0.heap.size)
    (hmono : ∀ i v w w', D i v w → Below w.heap.size w w' → D i v w')
    (hstep : ∀ i o, i < last → ops[i]? = some o → ∀ a w, SameBut ops last a0 a → Below B w0 w → (∀ e ∈ o.after, Region.binds .any e = true → D e.on (valAt ops a e.on) w) →
      Oper.wp P o a w (StepQ a w o.dst (D i)) Q)
    (hend : ∀ o, ops[last]? = some o → ∀ a w, SameBut ops last a0 a → Below B w0 w → (∀ j, j < last → D j (valAt ops a j) w) → Oper.wp P o a w (fun a' w' => Q .normal a' w') Q) :
    (Code.region id ops true).wp P Q a0 w0 := by
  refine wp_region_any hm (rinv_any hf hn (w0 := { w0 with drawn := w0.drawn + 1 }) hw0 hmono (fun i o h1 h2 a w h3 h4 h5 => hstep i o h1 h2 a w h3 (((Below.refl B w0).drew).trans h4) h5) (fun o h2 a w h3 h4 h5 => hend o h2 a w h3 (((Below.refl B w0).drew).trans h4) h5) ops.size (List.range ops.size) _ a0 _ (by simp) (fun j hj _ => List.mem_range.2 hj) ?_)
  have hrep : ∀ k, (Array.replicate ops.size false).getD k false = false := fun k => by
    rcases Nat.lt_or_ge k ops.size with h | h
    · simp [h]
    · simp [h]
  refine ⟨by simp, fun k o _ h => ?_, fun h => ?_, fun _ => ⟨⟨rfl, rfl, fun _ _ => rfl⟩, Below.refl _ _, fun j _ h => ?_⟩⟩ <;> (rw [hrep] at h; cases h)
theorem SameBut.get {last : Nat} {a0 a : Act} (h : SameBut ops last a0 a) (t : Tmp) (hB : (List.range last).all (fun j => (ops[j]?).bind (·.dst) != some t) = true) {v : Value} (hv : a0.tmps.getD t undef = v) : a.tmps[t]?.getD undef = v := by
  have h2 := h.2.2 t (fun j hj e => by
    have := List.all_eq_true.1 hB j (List.mem_range.2 hj)
    rw [e] at this
    simp at this)
  rw [hv] at h2
  rw [← h2, Array.getD_eq_getD_getElem?]
theorem val_get {D : Value → Prop} {a : Act} {j : Nat} (t : Tmp) (h : D (valAt ops a j)) (hd : (ops[j]?).bind (·.dst) = some t) : D (a.tmps[t]?.getD undef) := by
  unfold valAt at h
  rw [hd] at h
  rw [← Array.getD_eq_getD_getElem?]
  exact h
theorem tmps_open {a : Act} {n : Nat} (h : a.tmps.size = n) : ∃ u : Nat → Value, a.tmps = ((List.range n).map u).toArray ∧ ∀ t, a.tmps.getD t undef = if t < n then u t else undef := by
  refine ⟨fun t => a.tmps.getD t undef, ?_, fun t => ?_⟩
  · apply Array.ext
    · simp [h]
    · intro i h1 h2
      simp [h1]
  · split
    · rfl
    · simp [Array.getElem?_eq_none (show a.tmps.size ≤ t by omega)]
end
end Go.Proofs.Ytcnkghcdjicldaa
