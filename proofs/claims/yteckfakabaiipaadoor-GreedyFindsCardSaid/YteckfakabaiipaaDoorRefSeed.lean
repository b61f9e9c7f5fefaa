/- The walk of the document's Seed. -/
import Derived.Test.YteckfakabaiipaaDoorRefFits

namespace Go.Proofs.YteckfakabaiipaaDoor
open Go.RowKit

/-- behind a slice of the call's own another one's cells: in a region that keeps the text's order -/
theorem list_append {P : Program} (w : World) {ops : Array Oper} {rest : List Oper} {o : Oper} {a : Act} {Q : Exit → Act → World → Prop} (hgd : o.guard = none) (s x : Operand) (t : TypeId)
    (ho : o.op = .call { callee := .builtin .append, args := #[s, x], argTypes := #[t, t] }) (base : Nat) (e : TypeId) (i : TypeInfo) (z : Value) (bytes : Nat) (ht : P.underlying t = some (.slice e)) (hi : P.info? e = some i) (hz : i.zero = some z)
    (hsize : i.size = 1) (hby : i.bytes = bytes) (hzs : z.cells.size = 1) (v : Value) (n : Nat) (xs : List Value) (hv : a.eval s = v) (hown : w.ownsRow base e 1 v n xs)
    (B : Nat) (A : Option Addr) (m c : Nat) (us : List Value) (hx : a.eval x = .slice A m c) (hs : Src w B A m c us) (h1 : ∀ u ∈ us, u.oneCell' = true)
    (h63 : n + m ≤ maxLen) (hbytes : (n + m) * bytes ≤ 140737488355328) (hbase : base ≤ w.heap.size)
    (h : ∀ v' w', w'.ownsRow base e 1 v' (n + m) (xs ++ us) → w.grownBy w' v.ownBlock → (v'.ownBlock = v.ownBlock ∨ v'.ownBlock = some w.heap.size) → wpList P ops Q rest (a.put o.dst v') w') : wpList P ops Q (o :: rest) a w := by
  refine wpList_plain hgd fun K hK => ?_
  obtain ⟨v', w', hrun, g2, g3, g4⟩ := append_run (P := P) w base t o.type e i z bytes ht hi hz hsize hby hzs v n xs hown B A m c us hs h1 h63 hbytes hbase
  unfold Oper.wp
  simp only [execOp, ho, resolve, invoke, builtin, Sem.run_bind, Sem.run_pure, Result.andThen_ok, List.map_toArray, List.map_cons, List.map_nil, hv, hx, hrun]
  exact hK _ _ (h v' w' g2 g3 g4)
theorem thingsV_one (l : List Nat) : ∀ u ∈ thingsV l, u.oneCell' = true := by
  intro u hu
  unfold thingsV at hu
  obtain ⟨y, _, rfl⟩ := List.mem_map.1 hu
  rfl
theorem info3 : (Tryd.prog.info? 3).map (fun i => (i.zero, i.size, i.bytes)) = some (some (.int .i64 0), 1, 8) := by kernel_rfl

/-- the problem, as it stands in memory -/
structure Prob (w : World) (sa : Option Addr) (n pb pn : Nat) (zs : List Int) (budget : Int) (P : Nat → Int) : Prop where
  ints : IntsAt w sa zs
  len : Hid (zs.length = n)
  small : n ≤ 10
  row : PriceRow w pb n P
  pn : Hid (pn = 2 ^ n)
  b0 : 0 ≤ budget
  b1 : budget ≤ 9223372036854775807
theorem Prob.keep {w w' : World} {sa : Option Addr} {n pb pn : Nat} {zs : List Int} {budget : Int} {P : Nat → Int} (h : Prob w sa n pb pn zs budget P) (hB : Below w.heap.size w w') : Prob w' sa n pb pn zs budget P :=
  ⟨h.ints.keep hB, h.len, h.small, h.row.keep hB, h.pn, h.b0, h.b1⟩
@[reducible] def probV (sa : Option Addr) (n c pb pn pc' : Nat) (budget : Int) : Value := .agg #[.slice sa n c, .int .i64 budget, .slice (some ⟨pb, 0, none⟩) pn pc']

/-- what a region of the document's search leans on: the problem's box, and two sets' prices -/
def Held (w wx : World) (sl pl : Value) (budget : Int) (pb sT sB : Nat) (pT pB : Int) : Prop :=
  wx.cell? ⟨w.heap.size, 0, none⟩ = some sl ∧ wx.cell? ⟨w.heap.size, 1, none⟩ = some (.int .i64 budget) ∧ wx.cell? ⟨w.heap.size, 2, none⟩ = some pl ∧ wx.cell? ⟨pb, sT, none⟩ = some (.int .i64 pT) ∧ wx.cell? ⟨pb, sB, none⟩ = some (.int .i64 pB) ∧ w.heap.size < wx.heap.size ∧ Below w.heap.size w wx
section
variable {w W w2 : World} {sl pl : Value} {budget : Int} {pb sT sB : Nat} {pT pB : Int}
theorem Held.below (h : Held w W sl pl budget pb sT sB pT pB) : Below w.heap.size w W := h.2.2.2.2.2.2
theorem Held.kept (h : Held w W sl pl budget pb sT sB pT pB) : ProbKept w W sl pl budget := ⟨h.1, h.2.1, h.2.2.1, h.2.2.2.2.2.1, h.2.2.2.2.2.2⟩
theorem Held.call (h : Held w W sl pl budget pb sT sB pT pB) (hB : Below W.heap.size W w2) : Held w w2 sl pl budget pb sT sB pT pB := by
  have hk := h.kept.call hB
  obtain ⟨_, _, _, e3, e4, _, _⟩ := h
  have l3 := World.block_lt_of_cell? W _ e3
  exact ⟨hk.1, hk.2.1, hk.2.2.1, (hB.cell (p := ⟨pb, sT, none⟩) l3).trans e3, (hB.cell (p := ⟨pb, sB, none⟩) l3).trans e4, hk.2.2.2.1, hk.2.2.2.2⟩
end
/-- a list of things that was there is returned -/
theorem retL_of {l l' : List Nat} {w w' : World} {A : Option Addr} {m c B : Nat} (he : l' = l) (hs : Src w B A m c (thingsV l)) (hBw : B ≤ w.heap.size) (hB : Below w.heap.size w w') : RetL l' w (.returned (.slice A m c)) w' := by
  subst he
  have hm : l'.length = m := by rw [← thingsV_length]; exact hs.length
  subst hm
  exact ⟨A, c, rfl, (hs.keep (hB.mono hBw)).more (by have := hB.size; omega), hB⟩
theorem retL_at {l l' : List Nat} {w w' : World} {A : Option Addr} {m c : Nat} (he : l' = l) (hs : Src w' w'.heap.size A m c (thingsV l)) (hB : Below w.heap.size w w') : RetL l' w (.returned (.slice A m c)) w' := by
  subst he
  have hm : l'.length = m := by rw [← thingsV_length]; exact hs.length
  subst hm
  exact ⟨A, c, rfl, hs, hB⟩
theorem things16 {n : Nat} {l : List Nat} (h : Things n l) (hn : n ≤ 16) : Things 16 l := ⟨h.1, fun x hx => by have := h.2 x hx; omega⟩

set_option maxRecDepth 100000 in
set_option maxHeartbeats 4000000 in
theorem seed_leaf (sa A1 A2 : Option Addr) (n c pb pn pc' t1 c1 b1 c2 a : Nat) (zs : List Int) (budget many av : Int) (P : Nat → Int) (T best : List Nat) (w : World)
    (hp : Prob w sa n pb pn zs budget P) (h1 : Src w w.heap.size A1 t1 c1 (thingsV T)) (h2 : Src w w.heap.size A2 b1 c2 (thingsV best)) (hT : Things n T) (hb : Things n best) (hm : (many == 0) = true) :
    Calls Tryd.prog 21 #[probV sa n c pb pn pc' budget, .slice A1 t1 c1, .int .i64 av, .int .i64 many, .slice A2 b1 c2] w (RetL (seedR zs budget P 0 T a best) w) := by
  have KK := ProbKept.start w (.slice sa n c) (.slice (some ⟨pb, 0, none⟩) pn pc') budget
  have hn10 := hp.small
  have ht10 : t1 ≤ 10 := by have := things_le n T hT; have := h1.length; rw [thingsV_length] at this; omega
  have hTs := setL_lt T n hT.2
  have hbs := setL_lt best n hb.2
  obtain ⟨sT, hsT⟩ : ∃ sT, sT = setL T := ⟨_, rfl⟩
  obtain ⟨sB, hsB⟩ : ∃ sB, sB = setL best := ⟨_, rfl⟩
  rw [← hsT] at hTs
  rw [← hsB] at hbs
  have HST := Lib.hid hsT
  have HSB := Lib.hid hsB
  have hT1 : (sT : Int) < (pn : Int) := by rw [hp.pn.out]; omega
  have hB1 : (sB : Int) < (pn : Int) := by rw [hp.pn.out]; omega
  have hpn : pn ≤ 65536 := by rw [hp.pn.out]; have : 2 ^ n ≤ 2 ^ 16 := Nat.pow_le_pow_right (by omega) (by omega); omega
  have HC := Lib.hid (And.intro (hp.row sT hTs) (hp.row sB hbs))
  have HP := Lib.hid hp
  have HA := Lib.hid (And.intro h1 h2)
  have HT := Lib.hid (And.intro hT hb)
  obtain ⟨pT, hpT⟩ : ∃ pT, pT = P sT := ⟨_, rfl⟩
  obtain ⟨pB, hpB⟩ : ∃ pB, pB = P sB := ⟨_, rfl⟩
  rw [← hpT, ← hpB] at HC
  have HPT := Lib.hid hpT
  have HPB := Lib.hid hpB
  clear hp h1 h2 hT hb hTs hbs hsT hsB hpT hpB
  go_enter Tryd.func21, Tryd.ntmps21
  have KKc := KK
  obtain ⟨e0, e1, e2, l0, hbb⟩ := KKc
  go_wp2
  have KA : Held w (w.alloc (.cells #[.slice sa n c, .int .i64 budget, .slice (some ⟨pb, 0, none⟩) pn pc'] 37)).drew (.slice sa n c) (.slice (some ⟨pb, 0, none⟩) pn pc') budget pb sT sB pT pB := by
    have hb := KK.below
    have hk := KK.call (Below.refl _ _).drew
    have l3 := World.block_lt_of_cell? w _ HC.out.1
    exact ⟨hk.1, hk.2.1, hk.2.2.1, (hb.cell (p := ⟨pb, sT, none⟩) l3).trans HC.out.1, (hb.cell (p := ⟨pb, sB, none⟩) l3).trans HC.out.2, hk.2.2.2.1, hk.2.2.2.2⟩
  unfold Held at KA
  have HSET := Lib.hid (fun W (h : Below w.heap.size w W) => set_any A1 t1 c1 _ T W (HA.out.1.keep h) (things16 HT.out.1 (by omega)))
  have HSEB := Lib.hid (fun W (h : Below w.heap.size w W) => set_any A2 b1 c2 _ best W (HA.out.2.keep h) (things16 HT.out.2 (by omega)))
  rw [← HST.out] at HSET
  rw [← HSB.out] at HSEB
  by_cases hf : fitsR zs T budget = true
  · have HF := Lib.hid (fun W (h : Below w.heap.size w W) => fitsr_any sa A1 n c t1 c1 _ zs T budget (.slice (some ⟨pb, 0, none⟩) pn pc') W (HP.out.ints.keep h) HP.out.len (HA.out.1.keep h) h.size HT.out.1.2 (by omega) (by omega) HP.out.b0 HP.out.b1)
    rw [hf] at HF
    by_cases hlt : pT < pB
    · have HR := Lib.hid (show seedR zs budget P 0 T a best = T by rw [seedR, if_pos]; rw [hf, ← HST.out, ← HSB.out, ← HPT.out, ← HPB.out]; simpa using hlt)
      go_region_held3 (fun wx => wx.cell? ⟨w.heap.size, 0, none⟩ = some (.slice sa n c) ∧ wx.cell? ⟨w.heap.size, 1, none⟩ = some (.int .i64 budget) ∧ wx.cell? ⟨w.heap.size, 2, none⟩ = some (.slice (some ⟨pb, 0, none⟩) pn pc') ∧ wx.cell? ⟨pb, sT, none⟩ = some (.int .i64 pT) ∧ wx.cell? ⟨pb, sB, none⟩ = some (.int .i64 pB) ∧ w.heap.size < wx.heap.size ∧ Below w.heap.size w wx)
        (first
          | (with_reducible exact KA)
          | (with_reducible assumption)
          | exact Held.call (W := _) (by unfold Held; assumption) hB2)
        (first
          | (go_at_call 23; (with_reducible refine Calls.mono (HF.out _ ?_) ?_); (exact Held.below (W := _) (by unfold Held; assumption)); rintro e w2 ⟨rfl, hB2⟩)
          | (go_at_call 12; (with_reducible refine Calls.mono (HSET.out _ ?_) ?_); (exact Held.below (W := _) (by unfold Held; assumption)); rintro e w2 ⟨rfl, rfl⟩)
          | (go_at_call 12; (with_reducible refine Calls.mono (HSEB.out _ ?_) ?_); (exact Held.below (W := _) (by unfold Held; assumption)); rintro e w2 ⟨rfl, rfl⟩))
      all_goals
        rename_i hHeld
        go_wp2_with fail
        go_ret
        exact retL_of HR.out HA.out.1 (Nat.le_refl _) hHeld.2.2.2.2.2.2
    · have HR := Lib.hid (show seedR zs budget P 0 T a best = best by rw [seedR, if_neg]; rw [hf, ← HST.out, ← HSB.out, ← HPT.out, ← HPB.out]; simpa using hlt)
      go_region_held3 (fun wx => wx.cell? ⟨w.heap.size, 0, none⟩ = some (.slice sa n c) ∧ wx.cell? ⟨w.heap.size, 1, none⟩ = some (.int .i64 budget) ∧ wx.cell? ⟨w.heap.size, 2, none⟩ = some (.slice (some ⟨pb, 0, none⟩) pn pc') ∧ wx.cell? ⟨pb, sT, none⟩ = some (.int .i64 pT) ∧ wx.cell? ⟨pb, sB, none⟩ = some (.int .i64 pB) ∧ w.heap.size < wx.heap.size ∧ Below w.heap.size w wx)
        (first
          | (with_reducible exact KA)
          | (with_reducible assumption)
          | exact Held.call (W := _) (by unfold Held; assumption) hB2)
        (first
          | (go_at_call 23; (with_reducible refine Calls.mono (HF.out _ ?_) ?_); (exact Held.below (W := _) (by unfold Held; assumption)); rintro e w2 ⟨rfl, hB2⟩)
          | (go_at_call 12; (with_reducible refine Calls.mono (HSET.out _ ?_) ?_); (exact Held.below (W := _) (by unfold Held; assumption)); rintro e w2 ⟨rfl, rfl⟩)
          | (go_at_call 12; (with_reducible refine Calls.mono (HSEB.out _ ?_) ?_); (exact Held.below (W := _) (by unfold Held; assumption)); rintro e w2 ⟨rfl, rfl⟩))
      all_goals
        rename_i hHeld
        go_wp2_with fail
        go_ret
        exact retL_of HR.out HA.out.2 (Nat.le_refl _) hHeld.2.2.2.2.2.2
  · have hf' : fitsR zs T budget = false := by simpa using hf
    have HR := Lib.hid (show seedR zs budget P 0 T a best = best by rw [seedR, if_neg]; simp [hf'])
    have HF := Lib.hid (fun W (h : Below w.heap.size w W) => fitsr_any sa A1 n c t1 c1 _ zs T budget (.slice (some ⟨pb, 0, none⟩) pn pc') W (HP.out.ints.keep h) HP.out.len (HA.out.1.keep h) h.size HT.out.1.2 (by omega) (by omega) HP.out.b0 HP.out.b1)
    rw [hf'] at HF
    clear hf
    refine wp_region_held_drew (S := (fun wx => wx.cell? ⟨w.heap.size, 0, none⟩ = some (.slice sa n c) ∧ wx.cell? ⟨w.heap.size, 1, none⟩ = some (.int .i64 budget) ∧ wx.cell? ⟨w.heap.size, 2, none⟩ = some (.slice (some ⟨pb, 0, none⟩) pn pc') ∧ wx.cell? ⟨pb, sT, none⟩ = some (.int .i64 pT) ∧ wx.cell? ⟨pb, sB, none⟩ = some (.int .i64 pB) ∧ w.heap.size < wx.heap.size ∧ Below w.heap.size w wx)) (by kernel_rfl) KA (fun hHeld => ?_)
    refine wpAnyH_take (i := 0) (v := ?_) (List.getElem?_toArray.trans rfl) (by kernel_rfl) (by kernel_rfl) (by kernel_rfl) (fun _ _ _ h => h) (Or.inl ⟨by rfl, ?_⟩) hHeld ?_
    rotate_left
    · intro wx hSw
      (try dsimp only at hSw)
      go_simp
      (try with_reducible rfl)
    (try simp only [Act.put, List.setIfInBounds_toArray, List.set_cons_zero, List.set_cons_succ])
    refine wpAnyH_take (i := 1) (v := ?_) (List.getElem?_toArray.trans rfl) (by kernel_rfl) (by kernel_rfl) (by kernel_rfl) (fun _ _ _ h => h) (Or.inl ⟨by rfl, ?_⟩) hHeld ?_
    rotate_left
    · intro wx hSw
      (try dsimp only at hSw)
      go_simp
      (try with_reducible rfl)
    (try simp only [Act.put, List.setIfInBounds_toArray, List.set_cons_zero, List.set_cons_succ])
    refine wpAnyH_ready (rs := [2]) (by kernel_rfl) (by simp) ?_
    refine AllReadyH.cons (List.getElem?_toArray.trans rfl) (fun K hK => ?_) AllReadyH.nil
    go_simp
    go_at_call 23
    with_reducible refine Calls.mono (HF.out _ (Held.below (W := _) (by unfold Held; exact hHeld))) ?_
    rintro e w2 ⟨rfl, hB2⟩
    have hHeld2 := Held.call (W := _) (by unfold Held; exact hHeld) hB2
    unfold Held at hHeld2
    refine hK.out _ _ hHeld2 (fun _ => ?_)
    clear hK K hHeld
    have hHeld := hHeld2
    clear hHeld2
    (try simp only [Act.put, List.setIfInBounds_toArray, List.set_cons_zero, List.set_cons_succ])
    refine wpAnyH_take (i := 3) (v := ?_) (List.getElem?_toArray.trans rfl) (by kernel_rfl) (by kernel_rfl) (by kernel_rfl) (fun _ _ _ h => h) (Or.inl ⟨by rfl, ?_⟩) hHeld ?_
    rotate_left
    · intro wx hSw
      (try dsimp only at hSw)
      go_simp
      (try with_reducible rfl)
    (try simp only [Act.put, List.setIfInBounds_toArray, List.set_cons_zero, List.set_cons_succ])
    refine wpAnyH_take (i := 4) (List.getElem?_toArray.trans rfl) (by kernel_rfl) (by kernel_rfl) (by kernel_rfl) (fun _ _ _ h => h) (Or.inr ⟨by rfl, rfl⟩) hHeld ?_
    (try simp only [Act.put, List.setIfInBounds_toArray, List.set_cons_zero, List.set_cons_succ])
    refine wpAnyH_take (i := 5) (List.getElem?_toArray.trans rfl) (by kernel_rfl) (by kernel_rfl) (by kernel_rfl) (fun _ _ _ h => h) (Or.inr ⟨by rfl, rfl⟩) hHeld ?_
    (try simp only [Act.put, List.setIfInBounds_toArray, List.set_cons_zero, List.set_cons_succ])
    refine wpAnyH_take (i := 6) (List.getElem?_toArray.trans rfl) (by kernel_rfl) (by kernel_rfl) (by kernel_rfl) (fun _ _ _ h => h) (Or.inr ⟨by rfl, rfl⟩) hHeld ?_
    (try simp only [Act.put, List.setIfInBounds_toArray, List.set_cons_zero, List.set_cons_succ])
    refine wpAnyH_take (i := 7) (List.getElem?_toArray.trans rfl) (by kernel_rfl) (by kernel_rfl) (by kernel_rfl) (fun _ _ _ h => h) (Or.inr ⟨by rfl, rfl⟩) hHeld ?_
    (try simp only [Act.put, List.setIfInBounds_toArray, List.set_cons_zero, List.set_cons_succ])
    refine wpAnyH_take (i := 8) (List.getElem?_toArray.trans rfl) (by kernel_rfl) (by kernel_rfl) (by kernel_rfl) (fun _ _ _ h => h) (Or.inr ⟨by rfl, rfl⟩) hHeld ?_
    (try simp only [Act.put, List.setIfInBounds_toArray, List.set_cons_zero, List.set_cons_succ])
    refine wpAnyH_take (i := 9) (List.getElem?_toArray.trans rfl) (by kernel_rfl) (by kernel_rfl) (by kernel_rfl) (fun _ _ _ h => h) (Or.inr ⟨by rfl, rfl⟩) hHeld ?_
    (try simp only [Act.put, List.setIfInBounds_toArray, List.set_cons_zero, List.set_cons_succ])
    refine wpAnyH_take (i := 10) (List.getElem?_toArray.trans rfl) (by kernel_rfl) (by kernel_rfl) (by kernel_rfl) (fun _ _ _ h => h) (Or.inr ⟨by rfl, rfl⟩) hHeld ?_
    (try simp only [Act.put, List.setIfInBounds_toArray, List.set_cons_zero, List.set_cons_succ])
    refine wpAnyH_take (i := 11) (List.getElem?_toArray.trans rfl) (by kernel_rfl) (by kernel_rfl) (by kernel_rfl) (fun _ _ _ h => h) (Or.inr ⟨by rfl, rfl⟩) hHeld ?_
    (try simp only [Act.put, List.setIfInBounds_toArray, List.set_cons_zero, List.set_cons_succ])
    refine wpAnyH_take (i := 12) (List.getElem?_toArray.trans rfl) (by kernel_rfl) (by kernel_rfl) (by kernel_rfl) (fun _ _ _ h => h) (Or.inr ⟨by rfl, rfl⟩) hHeld ?_
    (try simp only [Act.put, List.setIfInBounds_toArray, List.set_cons_zero, List.set_cons_succ])
    refine wpAnyH_take (i := 13) (List.getElem?_toArray.trans rfl) (by kernel_rfl) (by kernel_rfl) (by kernel_rfl) (fun _ _ _ h => h) (Or.inr ⟨by rfl, rfl⟩) hHeld ?_
    (try simp only [Act.put, List.setIfInBounds_toArray, List.set_cons_zero, List.set_cons_succ])
    refine wpAnyH_take (i := 14) (List.getElem?_toArray.trans rfl) (by kernel_rfl) (by kernel_rfl) (by kernel_rfl) (fun _ _ _ h => h) (Or.inr ⟨by rfl, rfl⟩) hHeld ?_
    (try simp only [Act.put, List.setIfInBounds_toArray, List.set_cons_zero, List.set_cons_succ])
    refine wpAnyH_take (i := 15) (List.getElem?_toArray.trans rfl) (by kernel_rfl) (by kernel_rfl) (by kernel_rfl) (fun _ _ _ h => h) (Or.inr ⟨by rfl, rfl⟩) hHeld ?_
    (try simp only [Act.put, List.setIfInBounds_toArray, List.set_cons_zero, List.set_cons_succ])
    refine wpAnyH_take (i := 16) (List.getElem?_toArray.trans rfl) (by kernel_rfl) (by kernel_rfl) (by kernel_rfl) (fun _ _ _ h => h) (Or.inr ⟨by rfl, rfl⟩) hHeld ?_
    (try simp only [Act.put, List.setIfInBounds_toArray, List.set_cons_zero, List.set_cons_succ])
    refine wpAnyH_take (i := 17) (v := ?_) (List.getElem?_toArray.trans rfl) (by kernel_rfl) (by kernel_rfl) (by kernel_rfl) (fun _ _ _ h => h) (Or.inl ⟨by rfl, ?_⟩) hHeld ?_
    rotate_left
    · intro wx hSw
      (try dsimp only at hSw)
      go_simp
      (try with_reducible rfl)
    (try simp only [Act.put, List.setIfInBounds_toArray, List.set_cons_zero, List.set_cons_succ])
    refine wpAnyH_done (by kernel_rfl) ?_ _
    go_wp2_with fail
    go_ret
    exact retL_of HR.out HA.out.2 (Nat.le_refl _) hHeld.2.2.2.2.2.2

theorem own_kept {w w' : World} {base e size n B : Nat} {v : Value} {xs : List Value} (h : w.ownsRow base e size v n xs) (hB : Below B w w') (hw : w.heap.size ≤ B) : w'.ownsRow base e size v n xs := by
  obtain ⟨h1, h2⟩ := h
  refine ⟨h1, h2.imp id fun ⟨g, cap, cur, e1, e2, e3, e4⟩ => ⟨g, cap, cur, e1, e2, ?_, e4⟩⟩
  have hlt : g < w.heap.size := by
    rcases Nat.lt_or_ge g w.heap.size with hl | hge
    · exact hl
    · rw [Array.getElem?_eq_none hge] at e3; cases e3
  exact (hB.block g (by omega)).trans e3
/-- what holds in the loop of the document's Seed -/
def SeedIn (w wr : World) (sa : Option Addr) (n c pb pn pc' : Nat) (budget : Int) (A : Option Addr) (b1 cb : Nat) (bl : List Nat) : Prop :=
  ProbKept w wr (.slice sa n c) (.slice (some ⟨pb, 0, none⟩) pn pc') budget ∧ Src wr wr.heap.size A b1 cb (thingsV bl) ∧ Things n bl

theorem seedR_things (zs : List Int) (left : Int) (P : Nat → Int) : ∀ (m : Nat) (T : List Nat) (a : Nat) (b : List Nat), Things zs.length T → (∀ x ∈ T, x < a) → a ≤ zs.length → Things zs.length b → Things zs.length (seedR zs left P m T a b) := by
  intro m
  induction m with
  | zero =>
    intro T a b hT _ _ hb
    rw [seedR]
    split
    · exact hT
    · exact hb
  | succ m ih =>
    intro T a b hT hTa ha hb
    rw [seedR]
    have key : ∀ q, a + q ≤ zs.length → Things zs.length ((List.range' a q).foldl (fun b i => seedR zs left P m (T ++ [i]) (i + 1) b) b) := by
      intro q
      induction q with
      | zero => intro _; exact hb
      | succ q ihq =>
        intro hq
        rw [List.range'_concat, List.foldl_append]
        simp only [Nat.one_mul, List.foldl_cons, List.foldl_nil]
        refine ih _ _ _ (hT.snoc (a + q) (by omega) (fun hm => by have := hTa _ hm; omega)) (fun x hx => ?_) (by omega) (ihq (by omega))
        rcases List.mem_append.1 hx with hx | hx
        · have := hTa x hx; omega
        · have : x = a + q := by simpa using hx
          omega
    exact key _ (by omega)
/-- what the last region of Seed's round leans on -/
def SeedHeld (w wo wx : World) (sl pl : Value) (budget : Int) : Prop :=
  wx.cell? ⟨w.heap.size, 0, none⟩ = some sl ∧ wx.cell? ⟨w.heap.size, 1, none⟩ = some (.int .i64 budget) ∧ wx.cell? ⟨w.heap.size, 2, none⟩ = some pl ∧ w.heap.size < wx.heap.size ∧ Below w.heap.size w wx ∧ Below wo.heap.size wo wx
section
variable {w wo W w2 : World} {sl pl : Value} {budget : Int}
theorem SeedHeld.below (h : SeedHeld w wo W sl pl budget) : Below w.heap.size w W := h.2.2.2.2.1
theorem SeedHeld.below2 (h : SeedHeld w wo W sl pl budget) : Below wo.heap.size wo W := h.2.2.2.2.2
theorem SeedHeld.start (h : ProbKept w wo sl pl budget) (hB : Below wo.heap.size wo W) : SeedHeld w wo W sl pl budget := by
  have k := h.call hB
  exact ⟨k.1, k.2.1, k.2.2.1, k.2.2.2.1, k.2.2.2.2, hB⟩
theorem SeedHeld.more (hlt : w.heap.size < wo.heap.size) (h : SeedHeld w wo W sl pl budget) (hB : Below wo.heap.size W w2) : SeedHeld w wo w2 sl pl budget := by
  obtain ⟨e0, e1, e2, l0, hb, hb2⟩ := h
  have hl : ∀ o, w2.cell? ⟨w.heap.size, o, none⟩ = W.cell? ⟨w.heap.size, o, none⟩ := fun o => hB.cell (p := ⟨w.heap.size, o, none⟩) hlt
  have hz := hb2.size
  have hz2 := (hb2.trans hB).size
  exact ⟨(hl _).trans e0, (hl _).trans e1, (hl _).trans e2, by omega, hb.trans (hB.mono (by omega)), hb2.trans hB⟩
theorem SeedHeld.kept (h : SeedHeld w wo W sl pl budget) : ProbKept w W sl pl budget := ⟨h.1, h.2.1, h.2.2.1, h.2.2.2.1, h.2.2.2.2.1⟩
theorem src_things {base n c : Nat} {A : Option Addr} {T : List Nat} {j : Nat} (h : w.ownsRow base 3 1 (.slice A n c) n ([] ++ thingsV T ++ [.int .i64 j])) : Src w w.heap.size A n c (thingsV (T ++ [j])) := by
  have e : thingsV (T ++ [j]) = [] ++ thingsV T ++ [.int .i64 j] := by unfold thingsV; simp
  rw [e]
  exact Src.of_own h
end

set_option maxRecDepth 100000 in
set_option maxHeartbeats 4000000 in
theorem seed_all (sa : Option Addr) (n c pb pn pc' : Nat) (zs : List Int) (budget : Int) (P : Nat → Int) : ∀ (m : Nat) (many av : Int) (A1 A2 : Option Addr) (t1 c1 b1 c2 a : Nat) (T best : List Nat) (w : World),
    Prob w sa n pb pn zs budget P → Src w w.heap.size A1 t1 c1 (thingsV T) → Src w w.heap.size A2 b1 c2 (thingsV best) → Things n T → Things n best → (∀ x ∈ T, x < a) → a ≤ n → Hid (av = a) → Hid (many = m) → m ≤ 3 →
    Calls Tryd.prog 21 #[probV sa n c pb pn pc' budget, .slice A1 t1 c1, .int .i64 av, .int .i64 many, .slice A2 b1 c2] w (RetL (seedR zs budget P m T a best) w) := by
  intro m
  induction m with
  | zero =>
    intro many av A1 A2 t1 c1 b1 c2 a T best w hp h1 h2 hT hb hTa ha hav hm _
    exact seed_leaf sa A1 A2 n c pb pn pc' t1 c1 b1 c2 a zs budget many av P T best w hp h1 h2 hT hb (by rw [hm.out]; rfl)
  | succ m ih =>
    intro many av A1 A2 t1 c1 b1 c2 a T best w hp h1 h2 hT hb hTa ha hav hm hm3
    have KK := ProbKept.start w (.slice sa n c) (.slice (some ⟨pb, 0, none⟩) pn pc') budget
    have hn10 := hp.small
    have HTL := Lib.hid (show T.length = t1 by rw [← thingsV_length]; exact h1.length)
    have ht10 : t1 ≤ 10 := by have := things_le n T hT; have := HTL.out; omega
    have hm0 : (many == 0) = false := by rw [hm.out, beq_eq_false_iff_ne]; omega
    have hm1 : 1 ≤ many ∧ many ≤ 4 := by rw [hm.out]; omega
    have hmw : IntKind.i64.wrap (many - 1) = many - 1 := IntWalk.i64_in _ (by omega)
    have HI0 := Lib.hid (show (List.range' a (a - a)).foldl (fun b i => seedR zs budget P m (T ++ [i]) (i + 1) b) best = best by rw [Nat.sub_self]; rfl)
    have HIN := Lib.hid (show SeedIn w (w.alloc (.cells #[.slice sa n c, .int .i64 budget, .slice (some ⟨pb, 0, none⟩) pn pc'] 37)) sa n c pb pn pc' budget A2 b1 c2 best from
      ⟨KK, (h2.keep KK.below).more KK.below.size, hb⟩)
    have HLN := Lib.hid hp.len.out
    have HP := Lib.hid hp
    have HA := Lib.hid h1
    have HT := Lib.hid (And.intro hT hTa)
    have IH := Lib.hid ih
    clear hp h1 h2 hT hb hTa ih
    go_enter Tryd.func21, Tryd.ntmps21
    have KKc := KK
    obtain ⟨e0, e1, e2, l0, hbb⟩ := KKc
    go_wp2
    clear e0 e1 e2 l0 hbb
    go_loopw [4, 11] (fun b i wr => ∃ (j : Nat) (A : Option Addr) (bn cb : Nat) (bl : List Nat), a ≤ j ∧ j ≤ n ∧ i = .int .i64 j ∧ b = .slice A bn cb ∧ Hid ((List.range' a (j - a)).foldl (fun b i => seedR zs budget P m (T ++ [i]) (i + 1) b) best = bl) ∧ SeedIn w wr sa n c pb pn pc' budget A bn cb bl) (fun _ i _ => n - (intOf i).toNat)
    case atStart => exact ⟨a, A2, b1, c2, best, Nat.le_refl _, ha, by rw [hav.out], rfl, HI0, HIN.out⟩
    case round =>
      clear KK
      obtain ⟨j, A, bn, cb, bl, haj, hjn, rfl, rfl, HJ, hin⟩ := hrel
      obtain ⟨wo, rfl⟩ : ∃ wo : World, wo = wr := ⟨_, rfl⟩
      obtain ⟨KK, hSb, hTb⟩ := hin
      have KKc := KK
      obtain ⟨e0, e1, e2, l0, hbb⟩ := KKc
      by_cases hlt : j < n
      · have hj1 : IntKind.i64.wrap ((j : Int) + 1) = (j : Int) + 1 := IntWalk.i64_in _ (by omega)
        have hj2 : (0 : Int) ≤ (j : Int) + 1 := by omega
        have hm2 : 0 ≤ many - 1 := by omega
        have hjT : j ∉ T := fun h => by have := HT.out.2 j h; omega
        have HE := Lib.hid (show (List.range' a (j + 1 - a)).foldl (fun b i => seedR zs budget P m (T ++ [i]) (i + 1) b) best = seedR zs budget P m (T ++ [j]) (j + 1) bl by
          rw [show j + 1 - a = (j - a) + 1 by omega, List.range'_concat, List.foldl_append, HJ.out, Nat.one_mul, show a + (j - a) = j by omega]; rfl)
        have HTJ := Lib.hid (And.intro (HT.out.1.snoc j hlt hjT) (show ∀ x ∈ T ++ [j], x < j + 1 from fun x hx => by
          rcases List.mem_append.1 hx with hx | hx
          · have := HT.out.2 x hx; omega
          · have : x = j := by simpa using hx
            omega))
        have HSB := Lib.hid (And.intro hSb hTb)
        have HAV := Lib.hid (show ((j : Int) + 1) = ((j + 1 : Nat) : Int) by omega)
        have HMM := Lib.hid (show many - 1 = (m : Int) by rw [hm.out]; omega)
        have H47 := Lib.hid (show t1 + 1 ≤ maxLen ∧ (t1 + 1) * 8 ≤ 140737488355328 by unfold maxLen; omega)
        have HLE := Lib.hid (And.intro (show j + 1 ≤ n by omega) (show m ≤ 3 by omega))
        obtain ⟨i0, hi0, hz0, hz1, hz2⟩ := info_parts info3
        have HAJ := Lib.hid (show a ≤ j + 1 by omega)
        clear hSb hTb hm1 haj hjT
        go_wp2_with (first
          | (at_builtin
             refine list_append _ (by rfl) (.tmp 43) (.tmp 44) 34 (by rfl) wo.heap.size 3 i0 (.int .i64 0) 8 Tryd.underlying34 hi0 hz0 hz1 hz2 (by rfl) (.slice (some ⟨wo.heap.size, 0, none⟩) 0 0) 0 [] (by rfl) (World.ownsRow_lit wo #[] 0 (Nat.le_refl _) (Nat.zero_le _) rfl)
               w.heap.size A1 t1 c1 (thingsV T) (by rfl) (HA.out.keep ((hbb.trans ((Below.refl _ wo).alloc (by omega) _)))) (thingsV_one T) ?_ ?_ ?_ ?_
             · have := H47.out.1; omega
             · have := H47.out.2; omega
             · simp
             intro v1 w1 hown1 hg1 hat1
             have hb1 : Below wo.heap.size wo w1 := Below.grown ((Below.refl _ wo).alloc (Nat.le_refl _) _) hg1 (by simp) (fun k hk => slice_ge (Nat.le_refl _) hk)
             clear hat1 hg1)
          | fail)
        have KA : SeedHeld w wo w1.drew (.slice sa n c) (.slice (some ⟨pb, 0, none⟩) pn pc') budget := SeedHeld.start KK hb1.drew
        unfold SeedHeld at KA
        go_region_held3 (fun wx => wx.cell? ⟨w.heap.size, 0, none⟩ = some (.slice sa n c) ∧ wx.cell? ⟨w.heap.size, 1, none⟩ = some (.int .i64 budget) ∧ wx.cell? ⟨w.heap.size, 2, none⟩ = some (.slice (some ⟨pb, 0, none⟩) pn pc') ∧ w.heap.size < wx.heap.size ∧ Below w.heap.size w wx ∧ Below wo.heap.size wo wx)
          (first
            | (with_reducible exact KA)
            | (with_reducible assumption)
            | exact SeedHeld.start KK ((hb1.alloc hb1.size _).drew)
            | exact SeedHeld.more (W := _) l0 (by unfold SeedHeld; assumption) hB2
            | fail)
          (first
            | (refine step_append _ (by rfl) (.tmp 47) (.tmp 49) 34 (by rfl) wo.heap.size 3 i0 (.int .i64 0) 8 Tryd.underlying34 hi0 hz0 hz1 hz2 (by rfl) v1 (0 + t1) ([] ++ thingsV T) (by rfl) ?_ (w1.heap.size + 1) _ 1 1 [.int .i64 j] (by rfl) ?_ ?_ ?_ ?_ ?_ ?_
               · exact hown1.alloc _
               · exact Src.new w1 _ _
               · intro u hu; obtain rfl := List.mem_singleton.1 hu; rfl
               · have := H47.out.1; omega
               · have := H47.out.2; omega
               · exact (hb1.alloc hb1.size _).size
               intro v2 w2 hown2 hg2 hat2
               obtain ⟨A4, c4, rfl⟩ := owns_slice hown2
               have hB2 : Below wo.heap.size _ w2 := Below.grown (Below.refl _ _) hg2 (hb1.alloc hb1.size _).size (fun k hk => (hown1.lt k hk).1)
               have hsrc2 := src_things hown2
               rw [Nat.zero_add] at hsrc2
               clear hat2 hg2 hown2)
            | (go_at_call 21; (with_reducible refine Calls.mono (IH.out (many - 1) ((j : Int) + 1) A4 A (t1 + 1) c4 bn cb (j + 1) (T ++ [j]) bl _ ?_ ?_ ?_ HTJ.out.1 HSB.out.2 HTJ.out.2 HLE.out.1 HAV HMM HLE.out.2) ?_)
               · exact HP.out.keep (SeedHeld.below (W := _) (by unfold SeedHeld; assumption))
               · exact hsrc2
               · exact (HSB.out.1.keep (SeedHeld.below2 (W := _) (by unfold SeedHeld; assumption))).more (SeedHeld.below2 (W := _) (by unfold SeedHeld; assumption)).size
               rintro e w3 ⟨A3, c3, rfl, hs3, hB3⟩
               have hB2 := hB3.mono (SeedHeld.below2 (W := _) (by unfold SeedHeld; assumption)).size)
            | fail)
        all_goals
          rename_i hHeld
          have HTH := Lib.hid (show Things n (seedR zs budget P m (T ++ [j]) (j + 1) bl) by
            have h := seedR_things zs budget P m (T ++ [j]) (j + 1) bl
            rw [HLN.out] at h
            exact h HTJ.out.1 HTJ.out.2 HLE.out.1 HSB.out.2)
          go_wp2_with fail
          go_roundw
          case rel => exact ⟨j + 1, A3, _, c3, seedR zs budget P m (T ++ [j]) (j + 1) bl, HAJ.out, HLE.out.1, by go_num, rfl, HE, SeedHeld.kept hHeld, hs3, HTH.out⟩
          case measure => simp [intOf]; omega
      · obtain rfl : j = n := by omega
        have HR := Lib.hid (show seedR zs budget P (m + 1) T a best = bl by rw [seedR, HLN.out]; exact HJ.out)
        go_wp2
        go_ret
        exact retL_at HR.out hSb KK.below
end Go.Proofs.YteckfakabaiipaaDoor
