/- A region that draws its order: some operations in whatever order, then the others one by one. The document's parser at the words of one text: what may begin with NOT; a test or none. -/
import Derived.Test.YthdmfaepjemopaaGreatDoorQAI
import Derived.StillTail
import Derived.Test.YthdmfaepjemopaaGreatDoorQAG
namespace Go.Proofs.YthdmfaepjemopaaGreatDoor
open Go.RowKit

section
variable {P : Program} {ops : Array Oper} {Q : Exit → Act → World → Prop}
def reachB (ops : Array Oper) : Nat → Nat → Nat → Bool
  | 0, _, _ => false
  | f + 1, i, j => match ops[i]? with
    | none => false
    | some o => o.after.any fun e => Region.binds .any e && (e.on == j || reachB ops f e.on j)
theorem reach_listed {listed : Array Bool} (hcl : ∀ k o, ops[k]? = some o → listed.getD k false = true → ∀ e ∈ o.after, Region.binds .any e = true → listed.getD e.on false = true) : ∀ (f i j : Nat) (o : Oper), ops[i]? = some o → (∀ e ∈ o.after, Region.binds .any e = true → listed.getD e.on false = true) → reachB ops f i j = true → listed.getD j false = true
  | 0, _, _, _, _, _, h => by cases h
  | f + 1, i, j, o, ho, hd, h => by
    unfold reachB at h
    rw [ho] at h
    simp only [] at h
    rw [Array.any_eq_true] at h
    obtain ⟨x, hx, g⟩ := h
    rw [Bool.and_eq_true, Bool.or_eq_true] at g
    obtain ⟨g1, g2⟩ := g
    have h1 := hd o.after[x] (Array.getElem_mem hx) g1
    rcases g2 with g2 | g2
    · rw [beq_iff_eq] at g2
      rw [← g2]
      exact h1
    · cases ho2 : ops[(o.after[x]).on]? with
      | none =>
        cases f with
        | zero => cases g2
        | succ f =>
          unfold reachB at g2
          rw [ho2] at g2
          cases g2
      | some o2 => exact reach_listed hcl f _ j o2 ho2 (hcl _ o2 ho2 h1) g2
def regionT (ops : Array Oper) (n0 n : Nat) : Bool :=
  decide (n0 ≤ ops.size) && (List.range n0).all (fun i => match ops[i]? with
    | none => false
    | some o => o.guard.isNone && o.after.all (fun e => !Region.binds .any e || decide (e.on < i)) &&
      (match o.dst with | some d => decide (d < n) | none => true) &&
      (List.range n0).all (fun j => j == i || o.dst.isNone || (ops[j]?).bind (·.dst) != o.dst)) &&
  (List.range ops.size).all (fun i => decide (i < n0) || (match ops[i]? with
    | none => false
    | some _ => (List.range n0).all (fun j => reachB ops 12 i j))) &&
  Region.seqB .any ops (ops.size - n0) n0 (Array.replicate n0 true ++ Array.replicate (ops.size - n0) false)
theorem regionT_spec {n0 n : Nat} (h : regionT ops n0 n = true) : n0 ≤ ops.size ∧
    (∀ i, i < n0 → ∃ o, ops[i]? = some o ∧ o.guard = none ∧ (∀ e ∈ o.after, Region.binds .any e = true → e.on < i) ∧ (∀ d, o.dst = some d → d < n) ∧ ∀ j, j < n0 → j ≠ i → o.dst = none ∨ (ops[j]?).bind (·.dst) ≠ o.dst) ∧
    (∀ i o, n0 ≤ i → ops[i]? = some o → ∀ j, j < n0 → reachB ops 12 i j = true) ∧
    Region.seqB .any ops (ops.size - n0) n0 (Array.replicate n0 true ++ Array.replicate (ops.size - n0) false) = true := by
  unfold regionT at h
  rw [Bool.and_eq_true, Bool.and_eq_true, Bool.and_eq_true] at h
  obtain ⟨⟨⟨h1, h2⟩, h3⟩, h4⟩ := h
  refine ⟨by simpa using h1, fun i hi => ?_, fun i o hi ho j hj => ?_, h4⟩
  · have := List.all_eq_true.1 h2 i (List.mem_range.2 hi)
    cases ho : ops[i]? with
    | none => rw [ho] at this; simp at this
    | some o =>
      rw [ho] at this
      simp only [Bool.and_eq_true] at this
      obtain ⟨⟨⟨g1, g2⟩, g3⟩, g5⟩ := this
      refine ⟨o, rfl, by simpa using g1, fun e he hb => ?_, fun d hd => ?_, fun j hj hji => ?_⟩
      · have := Array.all_eq_true_iff_forall_mem.1 g2 e he
        rw [hb] at this
        simpa using this
      · rw [hd] at g3
        simpa using g3
      · have := List.all_eq_true.1 g5 j (List.mem_range.2 hj)
        rw [Bool.or_eq_true, Bool.or_eq_true] at this
        rcases this with (h | h) | h
        · exact absurd (by simpa using h) hji
        · exact Or.inl (by simpa using h)
        · exact Or.inr (by simpa using h)
  · have hil := (Array.getElem?_eq_some_iff.1 ho).1
    have := List.all_eq_true.1 h3 i (List.mem_range.2 hil)
    rw [ho, Bool.or_eq_true] at this
    rcases this with h | h
    · have : i < n0 := by simpa using h
      omega
    · exact List.all_eq_true.1 h j (List.mem_range.2 hj)
def RInvT (ops : Array Oper) (n0 : Nat) (a0 : Act) (J : Done → World → Prop) (listed : Array Bool) (a : Act) (w : World) : Prop :=
  listed.size = ops.size ∧ (∀ j, n0 ≤ j → listed.getD j false = false) ∧ (∀ k o, ops[k]? = some o → listed.getD k false = true → ∀ e ∈ o.after, Region.binds .any e = true → listed.getD e.on false = true) ∧ SameBut ops n0 a0 a ∧ J (stOf ops n0 listed a) w
theorem rinvT_any {n0 n : Nat} {a0 : Act} {J : Done → World → Prop} (hf : regionT ops n0 n = true) (hn : n ≤ a0.tmps.size)
    (hstep : ∀ i o, i < n0 → ops[i]? = some o → ∀ st a w, SameBut ops n0 a0 a → J st w → st i = none → (∀ e ∈ o.after, Region.binds .any e = true → st e.on = some (leftAt ops a e.on)) →
      Oper.wp P o a w (fun a' w' => ∃ v, a' = a.put o.dst v ∧ J (st.set i (dstVal o v)) w') Q)
    (hend : ∀ st a w, SameBut ops n0 a0 a → J st w → (∀ j, j < n0 → st j = some (leftAt ops a j)) → wpList P ops Q (ops.toList.drop n0) a w) :
    ∀ (m : Nat) (s : List Nat) (listed : Array Bool) (a : Act) (w : World), s.length = m → s.Nodup → (∀ j, j ∈ s ↔ j < n0 ∧ listed.getD j false = false) → RInvT ops n0 a0 J listed a w → wpAny P .any ops Q (m + (ops.size - n0)) listed a w := by
  obtain ⟨hsz, hall, htail, hseq⟩ := regionT_spec hf
  intro m
  induction m with
  | zero =>
    intro s listed a w hs _ hcov ⟨hls, hlo, _, hsb, hJ⟩
    have hnil : s = [] := List.length_eq_zero_iff.1 hs
    subst hnil
    have hup : ∀ j, j < n0 → listed.getD j false = true := fun j hj => by
      cases hl : listed.getD j false with
      | true => rfl
      | false => exact absurd ((hcov j).2 ⟨hj, hl⟩) (List.not_mem_nil)
    have hlist : listed = Array.replicate n0 true ++ Array.replicate (ops.size - n0) false := by
      apply Array.ext
      · simp [hls]; omega
      · intro j h1 h2
        by_cases hj : j < n0
        · have := hup j hj
          simp [h1] at this
          rw [Array.getElem_append_left (by simpa using hj)]
          simpa using this
        · have := hlo j (by omega)
          simp [h1] at this
          rw [Array.getElem_append_right (by simp; omega)]
          simpa using this
    have hL := hend _ a w hsb hJ (fun j hj => by
      unfold stOf
      rw [if_pos ⟨hj, hup j hj⟩])
    have hlen : (ops.toList.drop n0).length = ops.size - n0 := by simp
    have := wpAny_of_seq (P := P) (md := .any) (ops := ops) (Q' := Q) (ops.toList.drop n0) n0 listed a w (fun j => by simp) (by rw [hlen, hlist]; exact hseq) hL
    rw [hlen] at this
    rwa [Nat.zero_add]
  | succ m ih =>
    intro s listed a w hs hnd hcov ⟨hls, hlo, hcl, hsb, hJ⟩
    rw [Nat.succ_add]
    -- one of the first part is ready
    have hsome : ∃ j, j < n0 ∧ listed.getD j false = false := by
      cases s with
      | nil => simp at hs
      | cons x s => exact ⟨x, (hcov x).1 (by simp)⟩
    have hone : ∀ k j, j < n0 → j ≤ k → listed.getD j false = false → Region.ready .any ops listed ≠ [] := by
      intro k
      induction k with
      | zero =>
        intro j hj hk hl hr
        obtain ⟨o, ho, _, hlt, _⟩ := hall j hj
        have : j ∈ Region.ready .any ops listed := mem_ready.2 ⟨by
          have : j < listed.size := by omega
          simp [this] at hl ⊢; exact hl, o, ho, fun e he hb => by have := hlt e he hb; omega⟩
        rw [hr] at this; cases this
      | succ k ihk =>
        intro j hj hk hl hr
        obtain ⟨o, ho, _, hlt, _⟩ := hall j hj
        by_cases hd : ∀ e ∈ o.after, Region.binds .any e = true → listed.getD e.on false = true
        · have : j ∈ Region.ready .any ops listed := mem_ready.2 ⟨by
            have : j < listed.size := by omega
            simp [this] at hl ⊢; exact hl, o, ho, hd⟩
          rw [hr] at this; cases this
        · simp only [Classical.not_forall] at hd
          obtain ⟨e, he, hb, hne⟩ := hd
          have h5 := hlt e he hb
          exact ihk e.on (by omega) (by omega) (by simpa using hne) hr
    obtain ⟨j0, hj0, hl0⟩ := hsome
    refine ⟨fun hr => absurd hr (hone j0 j0 hj0 (Nat.le_refl _) hl0), fun i hi => ?_⟩
    obtain ⟨h1, o, ho, hdep⟩ := mem_ready.1 hi
    obtain ⟨h2, hil⟩ := getD_true_of_false h1
    have hilt : i < n0 := by
      rcases Nat.lt_or_ge i n0 with h | h
      · exact h
      · exfalso
        have := reach_listed hcl 12 i j0 o ho hdep (htail i o h ho j0 hj0)
        rw [hl0] at this
        cases this
    obtain ⟨o', ho', hg, hlt, hdn, hdis⟩ := hall i hilt
    rw [ho] at ho'; cases ho'
    have hcov' : ∀ j, j ∈ s.erase i ↔ j < n0 ∧ (listed.setIfInBounds i true).getD j false = false := by
      intro j
      by_cases hji : j = i
      · subst hji
        rw [getD_set_self hil]
        exact ⟨fun h => absurd h (hnd.not_mem_erase), fun h => by cases h.2⟩
      · rw [List.mem_erase_of_ne hji, hcov j, getD_set_ne false (Ne.symm hji)]
    have hmem : i ∈ s := (hcov i).2 ⟨hilt, h2⟩
    have hlen' : (s.erase i).length = m := by
      rw [List.length_erase_of_mem hmem]
      omega
    have hwant : Region.wanted o (yielded ops a.tmps) = true := by simp [Region.wanted, hg]
    unfold wpOp
    rw [ho]
    simp only [hwant, if_true]
    refine .inl ?_
    have hde : ∀ e ∈ o.after, Region.binds .any e = true → stOf ops n0 listed a e.on = some (leftAt ops a e.on) := fun e he hb => by
      have h5 := hlt e he hb
      unfold stOf
      rw [if_pos ⟨by omega, hdep e he hb⟩]
    have hnone : stOf ops n0 listed a i = none := by
      unfold stOf
      rw [if_neg (fun h => by rw [h2] at h; cases h.2)]
    refine Oper.wp_mono (fun a' w' ⟨v, ha', hJ'⟩ => ?_) (hstep i o hilt ho _ a w hsb hJ hnone hde)
    subst ha'
    have hst : stOf ops n0 (listed.setIfInBounds i true) (a.put o.dst v) = (stOf ops n0 listed a).set i (dstVal o v) := by
      funext j
      unfold Done.set stOf
      by_cases hji : j = i
      · subst hji
        rw [if_pos rfl, if_pos ⟨hilt, getD_set_self hil⟩]
        congr 1
        unfold leftAt dstVal
        rw [ho]
        simp only [Option.bind_some, Act.put]
        cases hd : o.dst with
        | none => rfl
        | some d =>
          have hsize : d < a.tmps.size := by rw [hsb.2.1]; exact Nat.lt_of_lt_of_le (hdn d hd) hn
          simp [hsize]
      · rw [if_neg hji, getD_set_ne false (Ne.symm hji)]
        have hv : j < n0 → leftAt ops (a.put o.dst v) j = leftAt ops a j := fun hj => by
          unfold leftAt
          cases hdj : (ops[j]?).bind (·.dst) with
          | none => rfl
          | some dj =>
            cases hd : o.dst with
            | none => rfl
            | some d =>
              have hne : d ≠ dj := fun e => by
                rcases hdis j hj hji with h | h
                · rw [hd] at h; cases h
                · exact h (by rw [hdj, hd, e])
              simp [Act.put, Array.getElem?_setIfInBounds_ne hne]
        by_cases hc : j < n0 ∧ listed.getD j false = true
        · rw [if_pos hc, if_pos hc, hv hc.1]
        · rw [if_neg hc, if_neg hc]
    refine ih (s.erase i) _ _ w' hlen' (hnd.erase i) hcov' ⟨by simpa using hls, fun j hj => ?_, fun k o2 hk hkl e he hb => ?_, ⟨?_, ?_, ?_⟩, ?_⟩
    · rw [getD_set_ne false (by omega)]; exact hlo j hj
    · by_cases hki : k = i
      · subst hki
        rw [ho] at hk; cases hk
        exact getD_set_true (hdep e he hb)
      · rw [getD_set_ne false (Ne.symm hki)] at hkl
        exact getD_set_true (hcl k o2 hk hkl e he hb)
    · cases hd : o.dst with
      | none => exact hsb.1
      | some d => exact hsb.1
    · cases hd : o.dst with
      | none => exact hsb.2.1
      | some d => simp [Act.put, hsb.2.1]
    · intro t ht
      rw [← hsb.2.2 t ht]
      cases hd : o.dst with
      | none => rfl
      | some d =>
        have : d ≠ t := fun e => ht i hilt (by rw [ho, ← e]; exact hd)
        simp [Act.put, Array.getElem?_setIfInBounds_ne this]
    · rw [hst]
      exact hJ'
theorem wp_region_T {n0 n id : Nat} {a0 : Act} {w0 : World} (J : Done → World → Prop) (hm : P.follows .mixedOrders = true) (hf : regionT ops n0 n = true) (hn : n ≤ a0.tmps.size) (h0 : J (fun _ => none) w0.drew)
    (hstep : ∀ i o, i < n0 → ops[i]? = some o → ∀ st a w, SameBut ops n0 a0 a → J st w → st i = none → (∀ e ∈ o.after, Region.binds .any e = true → st e.on = some (leftAt ops a e.on)) →
      Oper.wp P o a w (fun a' w' => ∃ v, a' = a.put o.dst v ∧ J (st.set i (dstVal o v)) w') Q)
    (hend : ∀ st a w, SameBut ops n0 a0 a → J st w → (∀ j, j < n0 → st j = some (leftAt ops a j)) → wpList P ops Q (ops.toList.drop n0) a w) :
    (Code.region id ops true).wp P Q a0 w0 := by
  have hsz := (regionT_spec hf).1
  have hrep : ∀ k, (Array.replicate ops.size false).getD k false = false := fun k => by
    rcases Nat.lt_or_ge k ops.size with h | h
    · simp [h]
    · simp [h]
  have hst : stOf ops n0 (Array.replicate ops.size false) a0 = fun _ => none := by
    funext j
    unfold stOf
    rw [if_neg (fun h => by have := h.2; rw [hrep] at this; cases this)]
  have := rinvT_any hf hn hstep hend n0 (List.range n0) (Array.replicate ops.size false) a0 w0.drew (by simp) (List.nodup_range) (fun j => by rw [List.mem_range, hrep]; simp) ⟨by simp, fun j _ => hrep j, fun k o _ h => (by rw [hrep] at h; cases h), ⟨rfl, rfl, fun _ _ => rfl⟩, by rw [hst]; exact h0⟩
  rw [show n0 + (ops.size - n0) = ops.size by omega] at this
  exact wp_region_any hm this
end
end Go.Proofs.YthdmfaepjemopaaGreatDoor
namespace Go.Proofs.YthdmfaepjemopaaGreatDoor
open Go.RowKit

@[reducible] def exR (x : Ex) : Array Value := #[.int .i64 x.kind, .string x.op, .int .i64 x.lit.k, .int .i64 x.lit.n, .float .f64 x.lit.f, .string x.lit.s, .string x.table, .string x.name, .bool x.neg, .slice x.A x.args.length x.c]
@[reducible] def opsR : Array Value := #[.string ⟨#[61]⟩, .string ⟨#[60, 62]⟩, .string ⟨#[60]⟩, .string ⟨#[60, 61]⟩, .string ⟨#[62]⟩, .string ⟨#[62, 61]⟩]
structure NB (w : World) (g b o c : Nat) (z : Int) (x : Ex) (W : World) : Prop where
  bx : BX w [.cells (pC b o c z) 99, .cells pZ 99, .cells exZ 41, .cells (exR x) 41] W
  ops : W.heap[g]? = some (.cells opsR 9)
  xa : XA (w.heap.size + 4) W x
  far : w.heap.size + 4 ≤ g
theorem NB.keep {w : World} {g b o c : Nat} {z : Int} {x : Ex} {W W' : World} (h : NB w g b o c z x W) (hB : Below W.heap.size W W') : NB w g b o c z x W' :=
  ⟨h.bx.keep hB, (hB.block _ (heap_lt h.ops)).trans h.ops, h.xa.far ((Far.refl _ W).keep hB), h.far⟩

set_option maxHeartbeats 32000000 in
theorem not_plain (b o c j : Nat) (z zz : Int) (hz : zz = j) (w : World) (hT : TksAt w b o) (hj : j < 15) (Φ : Ex → Prop) (d : Int) (h0 : ∀ W, Below w.heap.size w W → Calls Tryz.prog 53 #[pV b o c z, .string ⟨#[78, 79, 84]⟩] W (RetV (.bool false) W)) (hC : ∀ W, Below w.heap.size w W → Calls Tryz.prog 84 #[pV b o c z, .int .i64 5, .int .i64 d] W (XP Φ b o c zz W)) (h1 : nx j ⟨#[73, 83]⟩ = false) (n0 : nx j ⟨#[61]⟩ = false) (n1 : nx j ⟨#[60, 62]⟩ = false) (n2 : nx j ⟨#[60]⟩ = false) (n3 : nx j ⟨#[60, 61]⟩ = false) (n4 : nx j ⟨#[62]⟩ = false) (n5 : nx j ⟨#[62, 61]⟩ = false) : Calls Tryz.prog 95 #[pV b o c z, .int .i64 d] w (XP Φ b o c zz w) := by
  have HN0 := Lib.hid h0
  have HC := Lib.hid hC
  have HN := Lib.hid (fun q r (h : nx j q = r) W (hB : Below w.heap.size w W) => show Calls Tryz.prog 53 #[pV b o c zz, .string q] W (RetV (.bool r) W) from by have := next_any b o c j zz hz q W (hT.keep hB) hj; rwa [h] at this)
  clear hT hz h0 hC
  have sf := store_float
  go_enter Tryz.func95, Tryz.ntmps95
  go_wp2_with (first
    | (go_at_call 53; (with_reducible refine Calls.mono (HN0.out _ (BX.four w _ _ _ _).below) ?_); rintro e w2 ⟨rfl, hB2⟩
       have HB2 := Lib.hid ((BX.four w _ _ _ _).keep hB2)
       clear hB2
       obtain ⟨la, ra0, ra1, ra2, ra3, fa0, fa1, fa2, fa3⟩ := HB2.out.p4 0 rfl
       simp only [Nat.add_zero] at la ra0 ra1 ra2 ra3 fa0 fa1 fa2 fa3
)
    | (go_at_call 84; (with_reducible refine Calls.mono (HC.out _ HB2.out.below) ?_); rintro e w4 ⟨x, rfl, hB4, hx, hP⟩
       have HB4 := Lib.hid (HB2.out.keep hB4)
       have HX4 := Lib.hid (hx.mono (m := w.heap.size + 4) (by have := HB2.out.size 3 (by simp); omega))
       have HP := Lib.hid hP
       clear hB4 hx hP la ra0 ra1 ra2 ra3 fa0 fa1 fa2 fa3 HB2
       obtain ⟨la, ra0, ra1, ra2, ra3, fa0, fa1, fa2, fa3⟩ := HB4.out.p4 0 rfl
       simp only [Nat.add_zero] at la ra0 ra1 ra2 ra3 fa0 fa1 fa2 fa3
       obtain ⟨ld, rd0, rd1, rd2, rd3, rd4, rd5, rd6, rd7, rd8, rd9, fd0, fd1, fd2, fd3, fd4, fd5, fd6, fd7, fd8, fd9⟩ := HB4.out.e10 3 rfl
       simp only [plus3] at ld rd0 rd1 rd2 rd3 rd4 rd5 rd6 rd7 rd8 rd9 fd0 fd1 fd2 fd3 fd4 fd5 fd6 fd7 fd8 fd9
)
    | (go_at_call 53; (with_reducible refine Calls.mono (HN.out _ _ h1 _ ?hbw) ?_); (case hbw => exact ((HB4.out.setP (k := 0) rfl b o c zz).setX (k := 3) rfl x).below); rintro e w6 ⟨rfl, hB6⟩
       have HB6 := Lib.hid (((HB4.out.setP (k := 0) rfl b o c zz).setX (k := 3) rfl x).keep hB6)
       have HX6 := Lib.hid (HX4.out.far ((((Far.refl (w.heap.size + 4) w4).set4 (b := w.heap.size) (by omega) (.slice (some ⟨b, o, none⟩) 15 c) (.int .i64 zz) (.int .i64 0) (.int .i64 0)).set10 (b := w.heap.size + 3) (by omega) (.int .i64 x.kind) (.string x.op) (.int .i64 x.lit.k) (.int .i64 x.lit.n) (.float .f64 x.lit.f) (.string x.lit.s) (.string x.table) (.string x.name) (.bool x.neg) (.slice x.A x.args.length x.c)).keep hB6))
       clear hB6 la ra0 ra1 ra2 ra3 fa0 fa1 fa2 fa3 ld rd0 rd1 rd2 rd3 rd4 rd5 rd6 rd7 rd8 rd9 fd0 fd1 fd2 fd3 fd4 fd5 fd6 fd7 fd8 fd9 HB4 HX4)
    | fail)
  have HNB := Lib.hid (show NB w w6.heap.size b o c zz x (w6.alloc (.cells opsR 9)) from ⟨HB6.out.alloc _, heap_alloc_new w6 _, HX6.out.far ((Far.refl _ w6).alloc _), by have := HB6.out.size 3 (by simp); omega⟩)
  obtain ⟨g, hg⟩ : ∃ g, g = w6.heap.size := ⟨_, rfl⟩
  rw [← hg] at HNB ⊢
  generalize w6.alloc (.cells opsR 9) = w7 at HNB ⊢
  clear HB6 HX6 hg
  go_loopw [9] (fun i wr => ∃ k : Nat, k ≤ 6 ∧ i = .int .i64 k ∧ Hid (NB w g b o c zz x wr)) (fun i _ => 6 - (intOf i).toNat)
  case atStart => exact ⟨0, Nat.zero_le _, rfl, HNB⟩
  case round =>
    clear HNB
    obtain ⟨k, hk, rfl, HB⟩ := hrel
    obtain ⟨wo, rfl⟩ : ∃ wo : World, wo = wr := ⟨_, rfl⟩
    rcases (show k = 0 ∨ k = 1 ∨ k = 2 ∨ k = 3 ∨ k = 4 ∨ k = 5 ∨ k = 6 by omega) with rfl | rfl | rfl | rfl | rfl | rfl | rfl
    · have HS := Lib.hid (show ∀ wx, Below wo.heap.size wo wx → wx.cell? ⟨w.heap.size, 0, none⟩ = some (.slice (some ⟨b, o, none⟩) 15 c) ∧ wx.cell? ⟨w.heap.size, 1, none⟩ = some (.int .i64 zz) ∧ wx.cell? ⟨w.heap.size, 2, none⟩ = some (.int .i64 0) ∧ wx.cell? ⟨w.heap.size, 3, none⟩ = some (.int .i64 0) ∧ wx.cell? ⟨g, 0, none⟩ = some (.string ⟨#[61]⟩) from fun wx hx => by
        obtain ⟨-, a0, a1, a2, a3, -⟩ := (HB.out.keep hx).bx.p4 0 rfl
        exact ⟨a0, a1, a2, a3, cell_of_row _ _ 0 _ _ _ (HB.out.keep hx).ops⟩)
      have hW0 : Below wo.heap.size wo wo.drew := (Below.refl _ _).drew
      go_wp2_with fail
      go_region_held3 (fun wx => wx.cell? ⟨w.heap.size, 0, none⟩ = some (.slice (some ⟨b, o, none⟩) 15 c) ∧ wx.cell? ⟨w.heap.size, 1, none⟩ = some (.int .i64 zz) ∧ wx.cell? ⟨w.heap.size, 2, none⟩ = some (.int .i64 0) ∧ wx.cell? ⟨w.heap.size, 3, none⟩ = some (.int .i64 0) ∧ wx.cell? ⟨g, 0, none⟩ = some (.string ⟨#[61]⟩))
        (first
          | exact HS.out _ hW0
          | (with_reducible assumption)
          | exact HS.out _ hW4
          | fail)
        (first
          | (go_at_call 53; (with_reducible refine Calls.mono (HN.out _ _ n0 _ ?hbw) ?_); (case hbw => exact (HB.out.keep hW0).bx.below); rintro e w4 ⟨rfl, hB4⟩; have hW4 := hW0.trans (hB4.mono hW0.size))
          | fail)
      all_goals
        have HB4 := Lib.hid (HB.out.keep hW4)
        go_wp2_with fail
        go_roundw
        case rel => exact ⟨1, by omega, by go_num, HB4⟩
        case measure => simp [intOf] <;> omega
    · have HS := Lib.hid (show ∀ wx, Below wo.heap.size wo wx → wx.cell? ⟨w.heap.size, 0, none⟩ = some (.slice (some ⟨b, o, none⟩) 15 c) ∧ wx.cell? ⟨w.heap.size, 1, none⟩ = some (.int .i64 zz) ∧ wx.cell? ⟨w.heap.size, 2, none⟩ = some (.int .i64 0) ∧ wx.cell? ⟨w.heap.size, 3, none⟩ = some (.int .i64 0) ∧ wx.cell? ⟨g, 1, none⟩ = some (.string ⟨#[60, 62]⟩) from fun wx hx => by
        obtain ⟨-, a0, a1, a2, a3, -⟩ := (HB.out.keep hx).bx.p4 0 rfl
        exact ⟨a0, a1, a2, a3, cell_of_row _ _ 1 _ _ _ (HB.out.keep hx).ops⟩)
      have hW0 : Below wo.heap.size wo wo.drew := (Below.refl _ _).drew
      go_wp2_with fail
      go_region_held3 (fun wx => wx.cell? ⟨w.heap.size, 0, none⟩ = some (.slice (some ⟨b, o, none⟩) 15 c) ∧ wx.cell? ⟨w.heap.size, 1, none⟩ = some (.int .i64 zz) ∧ wx.cell? ⟨w.heap.size, 2, none⟩ = some (.int .i64 0) ∧ wx.cell? ⟨w.heap.size, 3, none⟩ = some (.int .i64 0) ∧ wx.cell? ⟨g, 1, none⟩ = some (.string ⟨#[60, 62]⟩))
        (first
          | exact HS.out _ hW0
          | (with_reducible assumption)
          | exact HS.out _ hW4
          | fail)
        (first
          | (go_at_call 53; (with_reducible refine Calls.mono (HN.out _ _ n1 _ ?hbw) ?_); (case hbw => exact (HB.out.keep hW0).bx.below); rintro e w4 ⟨rfl, hB4⟩; have hW4 := hW0.trans (hB4.mono hW0.size))
          | fail)
      all_goals
        have HB4 := Lib.hid (HB.out.keep hW4)
        go_wp2_with fail
        go_roundw
        case rel => exact ⟨2, by omega, by go_num, HB4⟩
        case measure => simp [intOf] <;> omega
    · have HS := Lib.hid (show ∀ wx, Below wo.heap.size wo wx → wx.cell? ⟨w.heap.size, 0, none⟩ = some (.slice (some ⟨b, o, none⟩) 15 c) ∧ wx.cell? ⟨w.heap.size, 1, none⟩ = some (.int .i64 zz) ∧ wx.cell? ⟨w.heap.size, 2, none⟩ = some (.int .i64 0) ∧ wx.cell? ⟨w.heap.size, 3, none⟩ = some (.int .i64 0) ∧ wx.cell? ⟨g, 2, none⟩ = some (.string ⟨#[60]⟩) from fun wx hx => by
        obtain ⟨-, a0, a1, a2, a3, -⟩ := (HB.out.keep hx).bx.p4 0 rfl
        exact ⟨a0, a1, a2, a3, cell_of_row _ _ 2 _ _ _ (HB.out.keep hx).ops⟩)
      have hW0 : Below wo.heap.size wo wo.drew := (Below.refl _ _).drew
      go_wp2_with fail
      go_region_held3 (fun wx => wx.cell? ⟨w.heap.size, 0, none⟩ = some (.slice (some ⟨b, o, none⟩) 15 c) ∧ wx.cell? ⟨w.heap.size, 1, none⟩ = some (.int .i64 zz) ∧ wx.cell? ⟨w.heap.size, 2, none⟩ = some (.int .i64 0) ∧ wx.cell? ⟨w.heap.size, 3, none⟩ = some (.int .i64 0) ∧ wx.cell? ⟨g, 2, none⟩ = some (.string ⟨#[60]⟩))
        (first
          | exact HS.out _ hW0
          | (with_reducible assumption)
          | exact HS.out _ hW4
          | fail)
        (first
          | (go_at_call 53; (with_reducible refine Calls.mono (HN.out _ _ n2 _ ?hbw) ?_); (case hbw => exact (HB.out.keep hW0).bx.below); rintro e w4 ⟨rfl, hB4⟩; have hW4 := hW0.trans (hB4.mono hW0.size))
          | fail)
      all_goals
        have HB4 := Lib.hid (HB.out.keep hW4)
        go_wp2_with fail
        go_roundw
        case rel => exact ⟨3, by omega, by go_num, HB4⟩
        case measure => simp [intOf] <;> omega
    · have HS := Lib.hid (show ∀ wx, Below wo.heap.size wo wx → wx.cell? ⟨w.heap.size, 0, none⟩ = some (.slice (some ⟨b, o, none⟩) 15 c) ∧ wx.cell? ⟨w.heap.size, 1, none⟩ = some (.int .i64 zz) ∧ wx.cell? ⟨w.heap.size, 2, none⟩ = some (.int .i64 0) ∧ wx.cell? ⟨w.heap.size, 3, none⟩ = some (.int .i64 0) ∧ wx.cell? ⟨g, 3, none⟩ = some (.string ⟨#[60, 61]⟩) from fun wx hx => by
        obtain ⟨-, a0, a1, a2, a3, -⟩ := (HB.out.keep hx).bx.p4 0 rfl
        exact ⟨a0, a1, a2, a3, cell_of_row _ _ 3 _ _ _ (HB.out.keep hx).ops⟩)
      have hW0 : Below wo.heap.size wo wo.drew := (Below.refl _ _).drew
      go_wp2_with fail
      go_region_held3 (fun wx => wx.cell? ⟨w.heap.size, 0, none⟩ = some (.slice (some ⟨b, o, none⟩) 15 c) ∧ wx.cell? ⟨w.heap.size, 1, none⟩ = some (.int .i64 zz) ∧ wx.cell? ⟨w.heap.size, 2, none⟩ = some (.int .i64 0) ∧ wx.cell? ⟨w.heap.size, 3, none⟩ = some (.int .i64 0) ∧ wx.cell? ⟨g, 3, none⟩ = some (.string ⟨#[60, 61]⟩))
        (first
          | exact HS.out _ hW0
          | (with_reducible assumption)
          | exact HS.out _ hW4
          | fail)
        (first
          | (go_at_call 53; (with_reducible refine Calls.mono (HN.out _ _ n3 _ ?hbw) ?_); (case hbw => exact (HB.out.keep hW0).bx.below); rintro e w4 ⟨rfl, hB4⟩; have hW4 := hW0.trans (hB4.mono hW0.size))
          | fail)
      all_goals
        have HB4 := Lib.hid (HB.out.keep hW4)
        go_wp2_with fail
        go_roundw
        case rel => exact ⟨4, by omega, by go_num, HB4⟩
        case measure => simp [intOf] <;> omega
    · have HS := Lib.hid (show ∀ wx, Below wo.heap.size wo wx → wx.cell? ⟨w.heap.size, 0, none⟩ = some (.slice (some ⟨b, o, none⟩) 15 c) ∧ wx.cell? ⟨w.heap.size, 1, none⟩ = some (.int .i64 zz) ∧ wx.cell? ⟨w.heap.size, 2, none⟩ = some (.int .i64 0) ∧ wx.cell? ⟨w.heap.size, 3, none⟩ = some (.int .i64 0) ∧ wx.cell? ⟨g, 4, none⟩ = some (.string ⟨#[62]⟩) from fun wx hx => by
        obtain ⟨-, a0, a1, a2, a3, -⟩ := (HB.out.keep hx).bx.p4 0 rfl
        exact ⟨a0, a1, a2, a3, cell_of_row _ _ 4 _ _ _ (HB.out.keep hx).ops⟩)
      have hW0 : Below wo.heap.size wo wo.drew := (Below.refl _ _).drew
      go_wp2_with fail
      go_region_held3 (fun wx => wx.cell? ⟨w.heap.size, 0, none⟩ = some (.slice (some ⟨b, o, none⟩) 15 c) ∧ wx.cell? ⟨w.heap.size, 1, none⟩ = some (.int .i64 zz) ∧ wx.cell? ⟨w.heap.size, 2, none⟩ = some (.int .i64 0) ∧ wx.cell? ⟨w.heap.size, 3, none⟩ = some (.int .i64 0) ∧ wx.cell? ⟨g, 4, none⟩ = some (.string ⟨#[62]⟩))
        (first
          | exact HS.out _ hW0
          | (with_reducible assumption)
          | exact HS.out _ hW4
          | fail)
        (first
          | (go_at_call 53; (with_reducible refine Calls.mono (HN.out _ _ n4 _ ?hbw) ?_); (case hbw => exact (HB.out.keep hW0).bx.below); rintro e w4 ⟨rfl, hB4⟩; have hW4 := hW0.trans (hB4.mono hW0.size))
          | fail)
      all_goals
        have HB4 := Lib.hid (HB.out.keep hW4)
        go_wp2_with fail
        go_roundw
        case rel => exact ⟨5, by omega, by go_num, HB4⟩
        case measure => simp [intOf] <;> omega
    · have HS := Lib.hid (show ∀ wx, Below wo.heap.size wo wx → wx.cell? ⟨w.heap.size, 0, none⟩ = some (.slice (some ⟨b, o, none⟩) 15 c) ∧ wx.cell? ⟨w.heap.size, 1, none⟩ = some (.int .i64 zz) ∧ wx.cell? ⟨w.heap.size, 2, none⟩ = some (.int .i64 0) ∧ wx.cell? ⟨w.heap.size, 3, none⟩ = some (.int .i64 0) ∧ wx.cell? ⟨g, 5, none⟩ = some (.string ⟨#[62, 61]⟩) from fun wx hx => by
        obtain ⟨-, a0, a1, a2, a3, -⟩ := (HB.out.keep hx).bx.p4 0 rfl
        exact ⟨a0, a1, a2, a3, cell_of_row _ _ 5 _ _ _ (HB.out.keep hx).ops⟩)
      have hW0 : Below wo.heap.size wo wo.drew := (Below.refl _ _).drew
      go_wp2_with fail
      go_region_held3 (fun wx => wx.cell? ⟨w.heap.size, 0, none⟩ = some (.slice (some ⟨b, o, none⟩) 15 c) ∧ wx.cell? ⟨w.heap.size, 1, none⟩ = some (.int .i64 zz) ∧ wx.cell? ⟨w.heap.size, 2, none⟩ = some (.int .i64 0) ∧ wx.cell? ⟨w.heap.size, 3, none⟩ = some (.int .i64 0) ∧ wx.cell? ⟨g, 5, none⟩ = some (.string ⟨#[62, 61]⟩))
        (first
          | exact HS.out _ hW0
          | (with_reducible assumption)
          | exact HS.out _ hW4
          | fail)
        (first
          | (go_at_call 53; (with_reducible refine Calls.mono (HN.out _ _ n5 _ ?hbw) ?_); (case hbw => exact (HB.out.keep hW0).bx.below); rintro e w4 ⟨rfl, hB4⟩; have hW4 := hW0.trans (hB4.mono hW0.size))
          | fail)
      all_goals
        have HB4 := Lib.hid (HB.out.keep hW4)
        go_wp2_with fail
        go_roundw
        case rel => exact ⟨6, by omega, by go_num, HB4⟩
        case measure => simp [intOf] <;> omega
    · obtain ⟨la, ra0, ra1, ra2, ra3, fa0, fa1, fa2, fa3⟩ := HB.out.bx.p4 0 rfl
      simp only [Nat.add_zero] at la ra0 ra1 ra2 ra3 fa0 fa1 fa2 fa3
      obtain ⟨lb, rb0, rb1, rb2, rb3, fb0, fb1, fb2, fb3⟩ := HB.out.bx.p4 1 rfl
      obtain ⟨lc, rc0, rc1, rc2, rc3, rc4, rc5, rc6, rc7, rc8, rc9, fc0, fc1, fc2, fc3, fc4, fc5, fc6, fc7, fc8, fc9⟩ := HB.out.bx.e10 2 rfl
      simp only [plus2] at lc rc0 rc1 rc2 rc3 rc4 rc5 rc6 rc7 rc8 rc9 fc0 fc1 fc2 fc3 fc4 fc5 fc6 fc7 fc8 fc9
      obtain ⟨ld, rd0, rd1, rd2, rd3, rd4, rd5, rd6, rd7, rd8, rd9, fd0, fd1, fd2, fd3, fd4, fd5, fd6, fd7, fd8, fd9⟩ := HB.out.bx.e10 3 rfl
      simp only [plus3] at ld rd0 rd1 rd2 rd3 rd4 rd5 rd6 rd7 rd8 rd9 fd0 fd1 fd2 fd3 fd4 fd5 fd6 fd7 fd8 fd9
      go_wp2_with fail
      go_region
      all_goals (
        rename_i K hK
        have HF := ((HB.out.bx.setP (k := 1) rfl b o c zz).setX (k := 2) rfl x).drew
        have hXF := HB.out.xa.far ((((Far.refl (w.heap.size + 4) wo).set4 (b := w.heap.size + 1) (by omega) (.slice (some ⟨b, o, none⟩) 15 c) (.int .i64 zz) (.int .i64 0) (.int .i64 0)).set10 (b := w.heap.size + 2) (by omega) (.int .i64 x.kind) (.string x.op) (.int .i64 x.lit.k) (.int .i64 x.lit.n) (.float .f64 x.lit.f) (.string x.lit.s) (.string x.table) (.string x.name) (.bool x.neg) (.slice x.A x.args.length x.c)).drew)
        exact hK _ _ (wp_ret (bodyPost_ret (res_pe (fn := Tryz.f95) rfl rfl rfl (HF.row 1 _ _ rfl) (HF.row 2 _ _ rfl)) rfl ⟨x, rfl, HF.below, hXF.mono (by omega), HP.out⟩)))

end Go.Proofs.YthdmfaepjemopaaGreatDoor
