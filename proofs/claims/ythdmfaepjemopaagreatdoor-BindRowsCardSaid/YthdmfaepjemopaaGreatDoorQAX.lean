/- The two statements of choose that append to several rows. -/
import Derived.Test.YthdmfaepjemopaaGreatDoorQAW
import Derived.Test.YthdmfaepjemopaaGreatDoorQAV
namespace Go.Proofs.YthdmfaepjemopaaGreatDoor
open Go.RowKit

theorem ch_ne {cs : List Ch} {l : List (Nat × Nat)} (hl : cs.map (fun c => (c.iA, c.iB)) = l) {i : Nat} (h : l.all (fun p => p.1 != i && p.2 != i) = true) {j : Nat} {c : Ch} (hj : cs[j]? = some c) : c.iA ≠ i ∧ c.iB ≠ i := by
  have h1 := List.all_eq_true.1 h (c.iA, c.iB) (by rw [← hl]; exact List.mem_map.2 ⟨c, List.mem_of_getElem? hj, rfl⟩)
  rw [Bool.and_eq_true, bne_iff_ne, bne_iff_ne] at h1
  exact h1
theorem eval_left {ops : Array Oper} {a : Act} {j : Nat} (t : Tmp) (hd : (ops[j]?).bind (·.dst) = some t) : a.eval (.tmp t) = leftAt ops a j := by
  unfold leftAt
  rw [hd]
  rfl
theorem put_same {a : Act} {t : Tmp} {v : Value} (h : t < a.tmps.size) : (a.put (some t) v).tmps[t]?.getD undef = v := by
  simp [Act.put, h]
theorem put_ne {a : Act} {t s : Tmp} {v : Value} (h : t ≠ s) : (a.put (some t) v).tmps[s]?.getD undef = a.tmps[s]?.getD undef := by
  simp [Act.put, Array.getElem?_setIfInBounds_ne h]
theorem ch_cases {c0 c1 c : Ch} {k : Nat} (h : [c0, c1][k]? = some c) : (k = 0 ∧ c0 = c) ∨ (k = 1 ∧ c1 = c) := by
  match k, h with
  | 0, h => exact Or.inl ⟨rfl, Option.some.inj h⟩
  | 1, h => exact Or.inr ⟨rfl, Option.some.inj h⟩
  | k + 2, h => simp at h
theorem ch_cases3 {c0 c1 c2 c : Ch} {k : Nat} (h : [c0, c1, c2][k]? = some c) : (k = 0 ∧ c0 = c) ∨ (k = 1 ∧ c1 = c) ∨ (k = 2 ∧ c2 = c) := by
  match k, h with
  | 0, h => exact Or.inl ⟨rfl, Option.some.inj h⟩
  | 1, h => exact Or.inr (Or.inl ⟨rfl, Option.some.inj h⟩)
  | 2, h => exact Or.inr (Or.inr ⟨rfl, Option.some.inj h⟩)
  | k + 3, h => simp at h
theorem five_cases {α : Type} {c0 c1 c2 c3 c4 c : α} {k : Nat} (h : [c0, c1, c2, c3, c4][k]? = some c) : (k = 0 ∧ c0 = c) ∨ (k = 1 ∧ c1 = c) ∨ (k = 2 ∧ c2 = c) ∨ (k = 3 ∧ c3 = c) ∨ (k = 4 ∧ c4 = c) := by
  match k, h with
  | 0, h => exact Or.inl ⟨rfl, Option.some.inj h⟩
  | 1, h => exact Or.inr (Or.inl ⟨rfl, Option.some.inj h⟩)
  | 2, h => exact Or.inr (Or.inr (Or.inl ⟨rfl, Option.some.inj h⟩))
  | 3, h => exact Or.inr (Or.inr (Or.inr (Or.inl ⟨rfl, Option.some.inj h⟩)))
  | 4, h => exact Or.inr (Or.inr (Or.inr (Or.inr ⟨rfl, Option.some.inj h⟩)))
  | k + 5, h => simp at h
theorem info9 : (Tryz.prog.info? 9).map (fun i => (i.zero, i.size, i.bytes)) = some (some (.string ⟨#[]⟩), 1, 16) := by kernel_rfl
theorem info65 : (Tryz.prog.info? 65).map (fun i => (i.zero, i.size, i.bytes)) = some (some (.agg #[.string ⟨#[]⟩, .slice none 0 0, .int .i64 0, .int .i64 0, .int .i64 0]), 5, 64) := by kernel_rfl
set_option maxRecDepth 100000 in
set_option maxHeartbeats 16000000 in
theorem reg11 (w : World) (sr xr cr : Array Value) (vt vb q3 q4 q5 q6 q7 q8 : Value) (wd at_ : Int) (m : Nat) (xt xb : List Value) (rs : List Rw) (W0 : World) (a0 : Act) (hsz : a0.tmps.size = 288) (h5 : a0.tmps.getD 5 undef = .pointer (some ⟨w.heap.size + 3, 0, none⟩)) (h9 : a0.tmps.getD 9 undef = .int .i64 at_)
    (hc : CM w sr xr #[vt, vb, .int .i64 wd, q3, q4, q5, q6, q7, q8] cr W0) (hown : OwnL (w.heap.size + 5) ([⟨3, 1, vt, m, xt⟩, ⟨3, 1, vb, m, xb⟩] ++ rs) W0) (hm : m ≤ 1000) {Q : Exit → Act → World → Prop}
    (hQ : ∀ a' W' A0 k0 A1 k1, a'.defers = a0.defers → a'.tmps.size = 288 → (∀ t, (t < 81 ∨ 93 < t) → a'.tmps.getD t undef = a0.tmps.getD t undef) → CM w sr xr #[.slice A0 (m + 1) k0, .slice A1 (m + 1) k1, .int .i64 wd, q3, q4, q5, q6, q7, q8] cr W' →
      OwnL (w.heap.size + 5) ([⟨3, 1, .slice A0 (m + 1) k0, m + 1, xt ++ [.int .i64 at_]⟩, ⟨3, 1, .slice A1 (m + 1) k1, m + 1, xb ++ [.int .i64 wd]⟩] ++ rs) W' → Q .normal a' W') : (regC 11).wp Tryz.prog Q a0 W0 := by
  conv => arg 2; whnf
  refine wp_region_par (n0 := 12) (n := 288) (steady_cm w sr xr #[vt, vb, .int .i64 wd, q3, q4, q5, q6, q7, q8] cr) [⟨3, 4, 44, ⟨3, 1, vt, m, xt⟩, [.int .i64 at_]⟩, ⟨9, 10, 44, ⟨3, 1, vb, m, xb⟩, [.int .i64 wd]⟩] rs (fun j => (([some (.pointer (some ⟨w.heap.size + 3, 0, none⟩)), some (vt), some (.int .i64 at_), none, none, some (.pointer (some ⟨w.heap.size + 3, 1, none⟩)), some (vb), some (.pointer (some ⟨w.heap.size + 3, 2, none⟩)), some (.int .i64 wd), none, none, some (.pointer (some ⟨w.heap.size + 3, 0, none⟩))] : List (Option Value))[j]?).getD none) (chOk_of rfl) (by kernel_rfl) (by kernel_rfl) (Nat.le_of_eq hsz.symm) hc (OwnL.par hown) ?kind ?pure ?dst ?build ?us ?lt ?app ?dep ?fin
  case kind =>
    intro i hi
    have : i = 0 ∨ i = 1 ∨ i = 2 ∨ i = 3 ∨ i = 4 ∨ i = 5 ∨ i = 6 ∨ i = 7 ∨ i = 8 ∨ i = 9 ∨ i = 10 ∨ i = 11 := by omega
    rcases this with rfl | rfl | rfl | rfl | rfl | rfl | rfl | rfl | rfl | rfl | rfl | rfl
    · exact Or.inl ⟨_, rfl, fun c hc => by
        rcases List.mem_iff_getElem?.1 hc with ⟨j, hj⟩
        exact ch_ne (l := [(4, 3), (10, 9)]) rfl (i := 0) rfl hj⟩
    · exact Or.inl ⟨_, rfl, fun c hc => by
        rcases List.mem_iff_getElem?.1 hc with ⟨j, hj⟩
        exact ch_ne (l := [(4, 3), (10, 9)]) rfl (i := 1) rfl hj⟩
    · exact Or.inl ⟨_, rfl, fun c hc => by
        rcases List.mem_iff_getElem?.1 hc with ⟨j, hj⟩
        exact ch_ne (l := [(4, 3), (10, 9)]) rfl (i := 2) rfl hj⟩
    · exact Or.inr ⟨0, _, rfl, rfl, Or.inl rfl⟩
    · exact Or.inr ⟨0, _, rfl, rfl, Or.inr rfl⟩
    · exact Or.inl ⟨_, rfl, fun c hc => by
        rcases List.mem_iff_getElem?.1 hc with ⟨j, hj⟩
        exact ch_ne (l := [(4, 3), (10, 9)]) rfl (i := 5) rfl hj⟩
    · exact Or.inl ⟨_, rfl, fun c hc => by
        rcases List.mem_iff_getElem?.1 hc with ⟨j, hj⟩
        exact ch_ne (l := [(4, 3), (10, 9)]) rfl (i := 6) rfl hj⟩
    · exact Or.inl ⟨_, rfl, fun c hc => by
        rcases List.mem_iff_getElem?.1 hc with ⟨j, hj⟩
        exact ch_ne (l := [(4, 3), (10, 9)]) rfl (i := 7) rfl hj⟩
    · exact Or.inl ⟨_, rfl, fun c hc => by
        rcases List.mem_iff_getElem?.1 hc with ⟨j, hj⟩
        exact ch_ne (l := [(4, 3), (10, 9)]) rfl (i := 8) rfl hj⟩
    · exact Or.inr ⟨1, _, rfl, rfl, Or.inl rfl⟩
    · exact Or.inr ⟨1, _, rfl, rfl, Or.inr rfl⟩
    · exact Or.inl ⟨_, rfl, fun c hc => by
        rcases List.mem_iff_getElem?.1 hc with ⟨j, hj⟩
        exact ch_ne (l := [(4, 3), (10, 9)]) rfl (i := 11) rfl hj⟩
  case pure =>
    intro i o x hi hx ho a w1 hsb hC hrs hpv
    have : i = 0 ∨ i = 1 ∨ i = 2 ∨ i = 3 ∨ i = 4 ∨ i = 5 ∨ i = 6 ∨ i = 7 ∨ i = 8 ∨ i = 9 ∨ i = 10 ∨ i = 11 := by omega
    rcases this with rfl | rfl | rfl | rfl | rfl | rfl | rfl | rfl | rfl | rfl | rfl | rfl
    · cases hx
      obtain rfl := Option.some.inj (ho.symm.trans (List.getElem?_toArray.trans rfl))
      have s5 : a.tmps[5]?.getD undef = .pointer (some ⟨w.heap.size + 3, 0, none⟩) := hsb.get 5 (by kernel_rfl) h5
      go_simp
      all_goals exact ⟨rfl, rfl⟩
    · cases hx
      obtain rfl := Option.some.inj (ho.symm.trans (List.getElem?_toArray.trans rfl))
      have d0 : a.tmps[81]?.getD undef = .pointer (some ⟨w.heap.size + 3, 0, none⟩) := (leftAt_get 81 rfl).trans (hpv ⟨0, .data⟩ (by simp) rfl _ rfl)
      have q0 := cell_of_row _ _ 0 _ _ _ hC.q
      go_simp
      all_goals exact ⟨rfl, rfl⟩
    · cases hx
      obtain rfl := Option.some.inj (ho.symm.trans (List.getElem?_toArray.trans rfl))
      have s9 : a.tmps[9]?.getD undef = .int .i64 at_ := hsb.get 9 (by kernel_rfl) h9
      go_simp
      all_goals exact ⟨rfl, rfl⟩
    · cases hx
    · cases hx
    · cases hx
      obtain rfl := Option.some.inj (ho.symm.trans (List.getElem?_toArray.trans rfl))
      have s5 : a.tmps[5]?.getD undef = .pointer (some ⟨w.heap.size + 3, 0, none⟩) := hsb.get 5 (by kernel_rfl) h5
      go_simp
      all_goals exact ⟨rfl, rfl⟩
    · cases hx
      obtain rfl := Option.some.inj (ho.symm.trans (List.getElem?_toArray.trans rfl))
      have d5 : a.tmps[86]?.getD undef = .pointer (some ⟨w.heap.size + 3, 1, none⟩) := (leftAt_get 86 rfl).trans (hpv ⟨5, .data⟩ (by simp) rfl _ rfl)
      have q1 := cell_of_row _ _ 1 _ _ _ hC.q
      go_simp
      all_goals exact ⟨rfl, rfl⟩
    · cases hx
      obtain rfl := Option.some.inj (ho.symm.trans (List.getElem?_toArray.trans rfl))
      have s5 : a.tmps[5]?.getD undef = .pointer (some ⟨w.heap.size + 3, 0, none⟩) := hsb.get 5 (by kernel_rfl) h5
      go_simp
      all_goals exact ⟨rfl, rfl⟩
    · cases hx
      obtain rfl := Option.some.inj (ho.symm.trans (List.getElem?_toArray.trans rfl))
      have d7 : a.tmps[88]?.getD undef = .pointer (some ⟨w.heap.size + 3, 2, none⟩) := (leftAt_get 88 rfl).trans (hpv ⟨7, .data⟩ (by simp) rfl _ rfl)
      have q2 := cell_of_row _ _ 2 _ _ _ hC.q
      go_simp
      all_goals exact ⟨rfl, rfl⟩
    · cases hx
    · cases hx
    · cases hx
      obtain rfl := Option.some.inj (ho.symm.trans (List.getElem?_toArray.trans rfl))
      have s5 : a.tmps[5]?.getD undef = .pointer (some ⟨w.heap.size + 3, 0, none⟩) := hsb.get 5 (by kernel_rfl) h5
      go_simp
      all_goals exact ⟨rfl, rfl⟩
  case dst =>
    intro i o hi ho
    have : i = 0 ∨ i = 1 ∨ i = 2 ∨ i = 3 ∨ i = 4 ∨ i = 5 ∨ i = 6 ∨ i = 7 ∨ i = 8 ∨ i = 9 ∨ i = 10 ∨ i = 11 := by omega
    rcases this with rfl | rfl | rfl | rfl | rfl | rfl | rfl | rfl | rfl | rfl | rfl | rfl <;> (obtain rfl := Option.some.inj (ho.symm.trans (List.getElem?_toArray.trans rfl)); exact fun h => by cases h)
  case build =>
    intro k c o hck ho a w1 hsb hC hpv
    rcases ch_cases hck with ⟨rfl, rfl⟩ | ⟨rfl, rfl⟩
    · obtain rfl := Option.some.inj (ho.symm.trans (List.getElem?_toArray.trans rfl))
      have d2 : a.tmps[83]?.getD undef = .int .i64 at_ := (leftAt_get 83 rfl).trans (hpv ⟨2, .data⟩ (by simp) rfl _ rfl)
      go_simp
      all_goals exact ⟨rfl, rfl⟩
    · obtain rfl := Option.some.inj (ho.symm.trans (List.getElem?_toArray.trans rfl))
      have d8 : a.tmps[89]?.getD undef = .int .i64 wd := (leftAt_get 89 rfl).trans (hpv ⟨8, .data⟩ (by simp) rfl _ rfl)
      go_simp
      all_goals exact ⟨rfl, rfl⟩
  case us =>
    intro c hc
    obtain ⟨k, hck⟩ := List.mem_iff_getElem?.1 hc
    rcases ch_cases hck with ⟨rfl, rfl⟩ | ⟨rfl, rfl⟩ <;> rfl
  case lt =>
    intro c hc
    obtain ⟨k, hck⟩ := List.mem_iff_getElem?.1 hc
    rcases ch_cases hck with ⟨rfl, rfl⟩ | ⟨rfl, rfl⟩ <;> exact ⟨by dsimp only; omega, by dsimp only; omega⟩
  case app =>
    intro k c o hck ho a w1 R y hsb hC hpv hyB _ hown1 hy1 hR
    rcases ch_cases hck with ⟨rfl, rfl⟩ | ⟨rfl, rfl⟩
    · obtain rfl := Option.some.inj (ho.symm.trans (List.getElem?_toArray.trans rfl))
      exact app_wp 44 3 1 8 (.int .i64 0) Tryz.underlying44 info3 rfl (by omega) (by omega) w1 (.tmp 82) (.tmp 84) rfl _ _ m _ ((eval_left 82 rfl).trans (hpv ⟨1, .data⟩ (by simp) rfl _ rfl)) hown1 y _ rfl rfl ((eval_left 84 rfl).trans hyB) hy1 (by omega) hC.lt hR
    · obtain rfl := Option.some.inj (ho.symm.trans (List.getElem?_toArray.trans rfl))
      exact app_wp 44 3 1 8 (.int .i64 0) Tryz.underlying44 info3 rfl (by omega) (by omega) w1 (.tmp 87) (.tmp 90) rfl _ _ m _ ((eval_left 87 rfl).trans (hpv ⟨6, .data⟩ (by simp) rfl _ rfl)) hown1 y _ rfl rfl ((eval_left 90 rfl).trans hyB) hy1 (by omega) hC.lt hR
  case dep =>
    intro k c o hck ho
    rcases ch_cases hck with ⟨rfl, rfl⟩ | ⟨rfl, rfl⟩
    · obtain rfl := Option.some.inj (ho.symm.trans (List.getElem?_toArray.trans rfl))
      exact ⟨⟨3, .data⟩, by simp, rfl, rfl⟩
    · obtain rfl := Option.some.inj (ho.symm.trans (List.getElem?_toArray.trans rfl))
      exact ⟨⟨9, .data⟩, by simp, rfl, rfl⟩
  case fin =>
    intro a w1 hsb hC hown1 hpv
    have hL := par_list hown1
    obtain ⟨A0, k0, e0⟩ := own_slice (hL.1 0 _ rfl)
    obtain ⟨A1, k1, e1⟩ := own_slice (hL.1 1 _ rfl)
    dsimp only [Ch.new] at e0 e1
    have v0 : a.tmps[85]?.getD undef = .slice A0 (m + 1) k0 := (leftAt_get 85 rfl).trans e0
    have v1 : a.tmps[91]?.getD undef = .slice A1 (m + 1) k1 := (leftAt_get 91 rfl).trans e1
    have s5 : a.tmps[5]?.getD undef = .pointer (some ⟨w.heap.size + 3, 0, none⟩) := hsb.get 5 (by kernel_rfl) h5
    have s92 : a.tmps[92]?.getD undef = .pointer (some ⟨w.heap.size + 3, 0, none⟩) := (leftAt_get 92 rfl).trans (hpv 11 _ (by omega) rfl)
    have HS := Lib.hid (show a.tmps.size = 288 from hsb.2.1.trans hsz)
    have hL2 : OwnL (w.heap.size + 5) ([⟨3, 1, .slice A0 (m + 1) k0, m + 1, xt ++ [.int .i64 at_]⟩, ⟨3, 1, .slice A1 (m + 1) k1, m + 1, xb ++ [.int .i64 wd]⟩] ++ rs) w1 := by
      have := hL
      rw [List.map_cons, List.map_cons, List.map_nil] at this
      dsimp only [Ch.new] at this
      rw [e0, e1] at this
      exact this
    clear e0 e1 hL hown1
    have hC1 := hC.setQ 0 (.slice A0 (m + 1) k0)
    have hC2 := hC1.setQ 1 (.slice A1 (m + 1) k1)
    have q0 := cell_of_row _ _ 0 _ _ _ hC.q
    have y0 := frozen_of_row _ _ 0 _ _ hC.q
    have q1 := cell_of_row _ _ 1 _ _ _ hC1.q
    have y1 := frozen_of_row _ _ 1 _ _ hC1.q
    simp only [List.drop_succ_cons, List.drop_zero]
    refine wpList_plain rfl fun R1 hR1 => ?_
    go_simp
    refine hR1 _ _ ?_
    clear hR1
    refine wpList_plain rfl fun R2 hR2 => ?_
    go_simp
    refine hR2 _ _ ?_
    clear hR2
    have g93 : ({ tmps := a.tmps.setIfInBounds 93 (.pointer (some ⟨w.heap.size + 3, 1, none⟩)), defers := a.defers } : Act).tmps[93]?.getD undef = .pointer (some ⟨w.heap.size + 3, 1, none⟩) := put_same (a := a) (t := 93) (by rw [HS.out]; decide)
    have g91 : ({ tmps := a.tmps.setIfInBounds 93 (.pointer (some ⟨w.heap.size + 3, 1, none⟩)), defers := a.defers } : Act).tmps[91]?.getD undef = .slice A1 (m + 1) k1 := (put_ne (a := a) (t := 93) (by decide)).trans v1
    have HPT := Lib.hid (show (∀ t, t ≠ 93 → ({ tmps := a.tmps.setIfInBounds 93 (.pointer (some ⟨w.heap.size + 3, 1, none⟩)), defers := a.defers } : Act).tmps.getD t undef = a.tmps.getD t undef) ∧ ({ tmps := a.tmps.setIfInBounds 93 (.pointer (some ⟨w.heap.size + 3, 1, none⟩)), defers := a.defers } : Act).defers = a.defers ∧ ({ tmps := a.tmps.setIfInBounds 93 (.pointer (some ⟨w.heap.size + 3, 1, none⟩)), defers := a.defers } : Act).tmps.size = 288 from ⟨fun t ht => by rw [Array.getD_eq_getD_getElem?, Array.getD_eq_getD_getElem?]; exact put_ne (a := a) (fun e => ht e.symm), rfl, by rw [← HS.out]; simp⟩)
    generalize ({ tmps := a.tmps.setIfInBounds 93 (.pointer (some ⟨w.heap.size + 3, 1, none⟩)), defers := a.defers } : Act) = a2 at g93 g91 HPT ⊢
    refine wpList_plain rfl fun R3 hR3 => ?_
    go_simp
    refine hR3 _ _ ?_
    refine hQ a2 _ A0 k0 A1 k1 (HPT.out.2.1.trans hsb.1) HPT.out.2.2 (fun t ht => ?_) hC2 ((hL2.far (by omega) _).far (by omega) _)
    refine (HPT.out.1 t (by omega)).trans (hsb.2.2 t (fun j hj e => ?_))
    have : j = 0 ∨ j = 1 ∨ j = 2 ∨ j = 3 ∨ j = 4 ∨ j = 5 ∨ j = 6 ∨ j = 7 ∨ j = 8 ∨ j = 9 ∨ j = 10 ∨ j = 11 := by omega
    rcases this with rfl | rfl | rfl | rfl | rfl | rfl | rfl | rfl | rfl | rfl | rfl | rfl <;> (cases e; omega)
set_option maxRecDepth 100000 in
set_option maxHeartbeats 16000000 in
theorem reg12 (w : World) (xr : Array Value) (tb tf sn sk : Nat) (six : Value) (va vt vg q0 q1 q3 q4 q5 q6 q7 q8 : Value) (wd : Int) (m k fb : Nat) (ft fas : ByteArray) (t : Tab) (xa xt xg : List Value) (rs : List Rw) (W0 : World) (a0 : Act) (hsz : a0.tmps.size = 288) (h2 : a0.tmps.getD 2 undef = .pointer (some ⟨w.heap.size, 0, none⟩)) (h5 : a0.tmps.getD 5 undef = .pointer (some ⟨w.heap.size + 3, 0, none⟩)) (h6 : a0.tmps.getD 6 undef = .pointer (some ⟨w.heap.size + 4, 0, none⟩)) (h8 : a0.tmps.getD 8 undef = .pointer (some ⟨fb, 0, none⟩)) (h9 : a0.tmps.getD 9 undef = .int .i64 (k : Int))
    (ht : ∀ (i : Nat) (v : Value), (tabL t)[i]? = some v → w.cell? ⟨tb, tf + k * 5 + i, none⟩ = some v) (hkn : k < sn) (hbx : (⟨60, 2, .slice (some ⟨fb, 0, none⟩) 1 1, 1, [.string ft, .string fas]⟩ : Rw) ∈ rs)
    (hc : CM w #[.slice (some ⟨tb, tf, none⟩) sn sk, six] xr #[q0, q1, .int .i64 wd, q3, q4, q5, q6, q7, q8] #[va, vt, vg, .bool false, .bool false] W0) (hown : OwnL (w.heap.size + 5) ([⟨9, 1, va, m, xa⟩, ⟨65, 5, vt, m, xt⟩, ⟨3, 1, vg, m, xg⟩] ++ rs) W0) (hm : m ≤ 1000) {Q : Exit → Act → World → Prop}
    (hQ : ∀ a' W' A0 k0 A1 k1 A2 k2, a'.defers = a0.defers → a'.tmps.size = 288 → (∀ t, (t < 94 ∨ 117 < t) → a'.tmps.getD t undef = a0.tmps.getD t undef) → CM w #[.slice (some ⟨tb, tf, none⟩) sn sk, six] xr #[q0, q1, .int .i64 wd, q3, q4, q5, q6, q7, q8] #[.slice A0 (m + 1) k0, .slice A1 (m + 1) k1, .slice A2 (m + 1) k2, .bool false, .bool false] W' →
      OwnL (w.heap.size + 5) ([⟨9, 1, .slice A0 (m + 1) k0, m + 1, xa ++ [.string fas]⟩, ⟨65, 5, .slice A1 (m + 1) k1, m + 1, xt ++ [.string t.name, .slice t.ca t.cn t.cc, .int .i64 t.root, .int .i64 t.next, .int .i64 t.rows]⟩, ⟨3, 1, .slice A2 (m + 1) k2, m + 1, xg ++ [.int .i64 wd]⟩] ++ rs) W' → Q .normal a' W') : (regC 12).wp Tryz.prog Q a0 W0 := by
  conv => arg 2; whnf
  refine wp_region_par (n0 := 22) (n := 288) (steady_cm w #[.slice (some ⟨tb, tf, none⟩) sn sk, six] xr #[q0, q1, .int .i64 wd, q3, q4, q5, q6, q7, q8] #[va, vt, vg, .bool false, .bool false]) [⟨4, 5, 84, ⟨9, 1, va, m, xa⟩, [.string fas]⟩, ⟨13, 14, 22, ⟨65, 5, vt, m, xt⟩, [.string t.name, .slice t.ca t.cn t.cc, .int .i64 t.root, .int .i64 t.next, .int .i64 t.rows]⟩, ⟨19, 20, 44, ⟨3, 1, vg, m, xg⟩, [.int .i64 wd]⟩] rs (fun j => (([some (.pointer (some ⟨w.heap.size + 4, 0, none⟩)), some (va), some (.pointer (some ⟨fb, 1, none⟩)), some (.string fas), none, none, some (.pointer (some ⟨w.heap.size + 4, 1, none⟩)), some (vt), some (.pointer (some ⟨w.heap.size, 0, none⟩)), some (.slice (some ⟨tb, tf, none⟩) sn sk), some (.int .i64 (k : Int)), some (.pointer (some ⟨tb, tf + k * 5, none⟩)), some (.agg #[.string t.name, .slice t.ca t.cn t.cc, .int .i64 t.root, .int .i64 t.next, .int .i64 t.rows]), none, none, some (.pointer (some ⟨w.heap.size + 4, 2, none⟩)), some (vg), some (.pointer (some ⟨w.heap.size + 3, 2, none⟩)), some (.int .i64 wd), none, none, some (.pointer (some ⟨w.heap.size + 4, 0, none⟩))] : List (Option Value))[j]?).getD none) (chOk_of rfl) (by kernel_rfl) (by kernel_rfl) (Nat.le_of_eq hsz.symm) hc (OwnL.par hown) ?kind ?pure ?dst ?build ?us ?lt ?app ?dep ?fin
  case kind =>
    intro i hi
    have : i = 0 ∨ i = 1 ∨ i = 2 ∨ i = 3 ∨ i = 4 ∨ i = 5 ∨ i = 6 ∨ i = 7 ∨ i = 8 ∨ i = 9 ∨ i = 10 ∨ i = 11 ∨ i = 12 ∨ i = 13 ∨ i = 14 ∨ i = 15 ∨ i = 16 ∨ i = 17 ∨ i = 18 ∨ i = 19 ∨ i = 20 ∨ i = 21 := by omega
    rcases this with rfl | rfl | rfl | rfl | rfl | rfl | rfl | rfl | rfl | rfl | rfl | rfl | rfl | rfl | rfl | rfl | rfl | rfl | rfl | rfl | rfl | rfl
    · exact Or.inl ⟨_, rfl, fun c hc => by
        rcases List.mem_iff_getElem?.1 hc with ⟨j, hj⟩
        exact ch_ne (l := [(5, 4), (14, 13), (20, 19)]) rfl (i := 0) rfl hj⟩
    · exact Or.inl ⟨_, rfl, fun c hc => by
        rcases List.mem_iff_getElem?.1 hc with ⟨j, hj⟩
        exact ch_ne (l := [(5, 4), (14, 13), (20, 19)]) rfl (i := 1) rfl hj⟩
    · exact Or.inl ⟨_, rfl, fun c hc => by
        rcases List.mem_iff_getElem?.1 hc with ⟨j, hj⟩
        exact ch_ne (l := [(5, 4), (14, 13), (20, 19)]) rfl (i := 2) rfl hj⟩
    · exact Or.inl ⟨_, rfl, fun c hc => by
        rcases List.mem_iff_getElem?.1 hc with ⟨j, hj⟩
        exact ch_ne (l := [(5, 4), (14, 13), (20, 19)]) rfl (i := 3) rfl hj⟩
    · exact Or.inr ⟨0, _, rfl, rfl, Or.inl rfl⟩
    · exact Or.inr ⟨0, _, rfl, rfl, Or.inr rfl⟩
    · exact Or.inl ⟨_, rfl, fun c hc => by
        rcases List.mem_iff_getElem?.1 hc with ⟨j, hj⟩
        exact ch_ne (l := [(5, 4), (14, 13), (20, 19)]) rfl (i := 6) rfl hj⟩
    · exact Or.inl ⟨_, rfl, fun c hc => by
        rcases List.mem_iff_getElem?.1 hc with ⟨j, hj⟩
        exact ch_ne (l := [(5, 4), (14, 13), (20, 19)]) rfl (i := 7) rfl hj⟩
    · exact Or.inl ⟨_, rfl, fun c hc => by
        rcases List.mem_iff_getElem?.1 hc with ⟨j, hj⟩
        exact ch_ne (l := [(5, 4), (14, 13), (20, 19)]) rfl (i := 8) rfl hj⟩
    · exact Or.inl ⟨_, rfl, fun c hc => by
        rcases List.mem_iff_getElem?.1 hc with ⟨j, hj⟩
        exact ch_ne (l := [(5, 4), (14, 13), (20, 19)]) rfl (i := 9) rfl hj⟩
    · exact Or.inl ⟨_, rfl, fun c hc => by
        rcases List.mem_iff_getElem?.1 hc with ⟨j, hj⟩
        exact ch_ne (l := [(5, 4), (14, 13), (20, 19)]) rfl (i := 10) rfl hj⟩
    · exact Or.inl ⟨_, rfl, fun c hc => by
        rcases List.mem_iff_getElem?.1 hc with ⟨j, hj⟩
        exact ch_ne (l := [(5, 4), (14, 13), (20, 19)]) rfl (i := 11) rfl hj⟩
    · exact Or.inl ⟨_, rfl, fun c hc => by
        rcases List.mem_iff_getElem?.1 hc with ⟨j, hj⟩
        exact ch_ne (l := [(5, 4), (14, 13), (20, 19)]) rfl (i := 12) rfl hj⟩
    · exact Or.inr ⟨1, _, rfl, rfl, Or.inl rfl⟩
    · exact Or.inr ⟨1, _, rfl, rfl, Or.inr rfl⟩
    · exact Or.inl ⟨_, rfl, fun c hc => by
        rcases List.mem_iff_getElem?.1 hc with ⟨j, hj⟩
        exact ch_ne (l := [(5, 4), (14, 13), (20, 19)]) rfl (i := 15) rfl hj⟩
    · exact Or.inl ⟨_, rfl, fun c hc => by
        rcases List.mem_iff_getElem?.1 hc with ⟨j, hj⟩
        exact ch_ne (l := [(5, 4), (14, 13), (20, 19)]) rfl (i := 16) rfl hj⟩
    · exact Or.inl ⟨_, rfl, fun c hc => by
        rcases List.mem_iff_getElem?.1 hc with ⟨j, hj⟩
        exact ch_ne (l := [(5, 4), (14, 13), (20, 19)]) rfl (i := 17) rfl hj⟩
    · exact Or.inl ⟨_, rfl, fun c hc => by
        rcases List.mem_iff_getElem?.1 hc with ⟨j, hj⟩
        exact ch_ne (l := [(5, 4), (14, 13), (20, 19)]) rfl (i := 18) rfl hj⟩
    · exact Or.inr ⟨2, _, rfl, rfl, Or.inl rfl⟩
    · exact Or.inr ⟨2, _, rfl, rfl, Or.inr rfl⟩
    · exact Or.inl ⟨_, rfl, fun c hc => by
        rcases List.mem_iff_getElem?.1 hc with ⟨j, hj⟩
        exact ch_ne (l := [(5, 4), (14, 13), (20, 19)]) rfl (i := 21) rfl hj⟩
  case pure =>
    intro i o x hi hx ho a w1 hsb hC hrs hpv
    have : i = 0 ∨ i = 1 ∨ i = 2 ∨ i = 3 ∨ i = 4 ∨ i = 5 ∨ i = 6 ∨ i = 7 ∨ i = 8 ∨ i = 9 ∨ i = 10 ∨ i = 11 ∨ i = 12 ∨ i = 13 ∨ i = 14 ∨ i = 15 ∨ i = 16 ∨ i = 17 ∨ i = 18 ∨ i = 19 ∨ i = 20 ∨ i = 21 := by omega
    rcases this with rfl | rfl | rfl | rfl | rfl | rfl | rfl | rfl | rfl | rfl | rfl | rfl | rfl | rfl | rfl | rfl | rfl | rfl | rfl | rfl | rfl | rfl
    · cases hx
      obtain rfl := Option.some.inj (ho.symm.trans (List.getElem?_toArray.trans rfl))
      have s6 : a.tmps[6]?.getD undef = .pointer (some ⟨w.heap.size + 4, 0, none⟩) := hsb.get 6 (by kernel_rfl) h6
      go_simp
      all_goals exact ⟨rfl, rfl⟩
    · cases hx
      obtain rfl := Option.some.inj (ho.symm.trans (List.getElem?_toArray.trans rfl))
      have d0 : a.tmps[94]?.getD undef = .pointer (some ⟨w.heap.size + 4, 0, none⟩) := (leftAt_get 94 rfl).trans (hpv ⟨0, .data⟩ (by simp) rfl _ rfl)
      have c0 := cell_of_row _ _ 0 _ _ _ hC.sc
      go_simp
      all_goals exact ⟨rfl, rfl⟩
    · cases hx
      obtain rfl := Option.some.inj (ho.symm.trans (List.getElem?_toArray.trans rfl))
      have s8 : a.tmps[8]?.getD undef = .pointer (some ⟨fb, 0, none⟩) := hsb.get 8 (by kernel_rfl) h8
      go_simp
      all_goals exact ⟨rfl, rfl⟩
    · cases hx
      obtain rfl := Option.some.inj (ho.symm.trans (List.getElem?_toArray.trans rfl))
      have d2 : a.tmps[96]?.getD undef = .pointer (some ⟨fb, 1, none⟩) := (leftAt_get 96 rfl).trans (hpv ⟨2, .data⟩ (by simp) rfl _ rfl)
      obtain ⟨gb, kb, hgb, _, _, hcb⟩ := own_take (hrs _ hbx) (by show 0 < 1; omega)
      cases hgb
      have b1 := hcb 1 _ rfl
      go_simp
      all_goals exact ⟨rfl, rfl⟩
    · cases hx
    · cases hx
    · cases hx
      obtain rfl := Option.some.inj (ho.symm.trans (List.getElem?_toArray.trans rfl))
      have s6 : a.tmps[6]?.getD undef = .pointer (some ⟨w.heap.size + 4, 0, none⟩) := hsb.get 6 (by kernel_rfl) h6
      go_simp
      all_goals exact ⟨rfl, rfl⟩
    · cases hx
      obtain rfl := Option.some.inj (ho.symm.trans (List.getElem?_toArray.trans rfl))
      have d6 : a.tmps[100]?.getD undef = .pointer (some ⟨w.heap.size + 4, 1, none⟩) := (leftAt_get 100 rfl).trans (hpv ⟨6, .data⟩ (by simp) rfl _ rfl)
      have c1 := cell_of_row _ _ 1 _ _ _ hC.sc
      go_simp
      all_goals exact ⟨rfl, rfl⟩
    · cases hx
      obtain rfl := Option.some.inj (ho.symm.trans (List.getElem?_toArray.trans rfl))
      have s2 : a.tmps[2]?.getD undef = .pointer (some ⟨w.heap.size, 0, none⟩) := hsb.get 2 (by kernel_rfl) h2
      go_simp
      all_goals exact ⟨rfl, rfl⟩
    · cases hx
      obtain rfl := Option.some.inj (ho.symm.trans (List.getElem?_toArray.trans rfl))
      have d8 : a.tmps[102]?.getD undef = .pointer (some ⟨w.heap.size, 0, none⟩) := (leftAt_get 102 rfl).trans (hpv ⟨8, .data⟩ (by simp) rfl _ rfl)
      have c2 := cell_of_row _ _ 0 _ _ _ hC.sb
      go_simp
      all_goals exact ⟨rfl, rfl⟩
    · cases hx
      obtain rfl := Option.some.inj (ho.symm.trans (List.getElem?_toArray.trans rfl))
      have s9 : a.tmps[9]?.getD undef = .int .i64 (k : Int) := hsb.get 9 (by kernel_rfl) h9
      go_simp
      all_goals exact ⟨rfl, rfl⟩
    · cases hx
      obtain rfl := Option.some.inj (ho.symm.trans (List.getElem?_toArray.trans rfl))
      have d9 : a.tmps[103]?.getD undef = .slice (some ⟨tb, tf, none⟩) sn sk := (leftAt_get 103 rfl).trans (hpv ⟨9, .data⟩ (by simp) rfl _ rfl)
      have d10 : a.tmps[104]?.getD undef = .int .i64 (k : Int) := (leftAt_get 104 rfl).trans (hpv ⟨10, .data⟩ (by simp) rfl _ rfl)
      have hkn : ((k : Int) < (sn : Int)) = True := eq_true (by omega)
      go_simp
      all_goals exact ⟨rfl, rfl⟩
    · cases hx
      obtain rfl := Option.some.inj (ho.symm.trans (List.getElem?_toArray.trans rfl))
      have d11 : a.tmps[105]?.getD undef = .pointer (some ⟨tb, tf + k * 5, none⟩) := (leftAt_get 105 rfl).trans (hpv ⟨11, .data⟩ (by simp) rfl _ rfl)
      have t0 := cell_kept (ht 0 _ rfl) hC.below
      have t1 := cell_kept (ht 1 _ rfl) hC.below
      have t2 := cell_kept (ht 2 _ rfl) hC.below
      have t3 := cell_kept (ht 3 _ rfl) hC.below
      have t4 := cell_kept (ht 4 _ rfl) hC.below
      rw [Nat.add_zero] at t0
      go_simp
      all_goals exact ⟨rfl, rfl⟩
    · cases hx
    · cases hx
    · cases hx
      obtain rfl := Option.some.inj (ho.symm.trans (List.getElem?_toArray.trans rfl))
      have s6 : a.tmps[6]?.getD undef = .pointer (some ⟨w.heap.size + 4, 0, none⟩) := hsb.get 6 (by kernel_rfl) h6
      go_simp
      all_goals exact ⟨rfl, rfl⟩
    · cases hx
      obtain rfl := Option.some.inj (ho.symm.trans (List.getElem?_toArray.trans rfl))
      have d15 : a.tmps[109]?.getD undef = .pointer (some ⟨w.heap.size + 4, 2, none⟩) := (leftAt_get 109 rfl).trans (hpv ⟨15, .data⟩ (by simp) rfl _ rfl)
      have c3 := cell_of_row _ _ 2 _ _ _ hC.sc
      go_simp
      all_goals exact ⟨rfl, rfl⟩
    · cases hx
      obtain rfl := Option.some.inj (ho.symm.trans (List.getElem?_toArray.trans rfl))
      have s5 : a.tmps[5]?.getD undef = .pointer (some ⟨w.heap.size + 3, 0, none⟩) := hsb.get 5 (by kernel_rfl) h5
      go_simp
      all_goals exact ⟨rfl, rfl⟩
    · cases hx
      obtain rfl := Option.some.inj (ho.symm.trans (List.getElem?_toArray.trans rfl))
      have d17 : a.tmps[111]?.getD undef = .pointer (some ⟨w.heap.size + 3, 2, none⟩) := (leftAt_get 111 rfl).trans (hpv ⟨17, .data⟩ (by simp) rfl _ rfl)
      have q2 := cell_of_row _ _ 2 _ _ _ hC.q
      go_simp
      all_goals exact ⟨rfl, rfl⟩
    · cases hx
    · cases hx
    · cases hx
      obtain rfl := Option.some.inj (ho.symm.trans (List.getElem?_toArray.trans rfl))
      have s6 : a.tmps[6]?.getD undef = .pointer (some ⟨w.heap.size + 4, 0, none⟩) := hsb.get 6 (by kernel_rfl) h6
      go_simp
      all_goals exact ⟨rfl, rfl⟩
  case dst =>
    intro i o hi ho
    have : i = 0 ∨ i = 1 ∨ i = 2 ∨ i = 3 ∨ i = 4 ∨ i = 5 ∨ i = 6 ∨ i = 7 ∨ i = 8 ∨ i = 9 ∨ i = 10 ∨ i = 11 ∨ i = 12 ∨ i = 13 ∨ i = 14 ∨ i = 15 ∨ i = 16 ∨ i = 17 ∨ i = 18 ∨ i = 19 ∨ i = 20 ∨ i = 21 := by omega
    rcases this with rfl | rfl | rfl | rfl | rfl | rfl | rfl | rfl | rfl | rfl | rfl | rfl | rfl | rfl | rfl | rfl | rfl | rfl | rfl | rfl | rfl | rfl <;> (obtain rfl := Option.some.inj (ho.symm.trans (List.getElem?_toArray.trans rfl)); exact fun h => by cases h)
  case build =>
    intro k c o hck ho a w1 hsb hC hpv
    rcases ch_cases3 hck with ⟨rfl, rfl⟩ | ⟨rfl, rfl⟩ | ⟨rfl, rfl⟩
    · obtain rfl := Option.some.inj (ho.symm.trans (List.getElem?_toArray.trans rfl))
      have d3 : a.tmps[97]?.getD undef = .string fas := (leftAt_get 97 rfl).trans (hpv ⟨3, .data⟩ (by simp) rfl _ rfl)
      go_simp
      all_goals exact ⟨rfl, rfl⟩
    · obtain rfl := Option.some.inj (ho.symm.trans (List.getElem?_toArray.trans rfl))
      have d12 : a.tmps[106]?.getD undef = .agg #[.string t.name, .slice t.ca t.cn t.cc, .int .i64 t.root, .int .i64 t.next, .int .i64 t.rows] := (leftAt_get 106 rfl).trans (hpv ⟨12, .data⟩ (by simp) rfl _ rfl)
      go_simp
      all_goals exact ⟨rfl, rfl⟩
    · obtain rfl := Option.some.inj (ho.symm.trans (List.getElem?_toArray.trans rfl))
      have d18 : a.tmps[112]?.getD undef = .int .i64 wd := (leftAt_get 112 rfl).trans (hpv ⟨18, .data⟩ (by simp) rfl _ rfl)
      go_simp
      all_goals exact ⟨rfl, rfl⟩
  case us =>
    intro c hc
    obtain ⟨k, hck⟩ := List.mem_iff_getElem?.1 hc
    rcases ch_cases3 hck with ⟨rfl, rfl⟩ | ⟨rfl, rfl⟩ | ⟨rfl, rfl⟩ <;> rfl
  case lt =>
    intro c hc
    obtain ⟨k, hck⟩ := List.mem_iff_getElem?.1 hc
    rcases ch_cases3 hck with ⟨rfl, rfl⟩ | ⟨rfl, rfl⟩ | ⟨rfl, rfl⟩ <;> exact ⟨by dsimp only; omega, by dsimp only; omega⟩
  case app =>
    intro k c o hck ho a w1 R y hsb hC hpv hyB _ hown1 hy1 hR
    rcases ch_cases3 hck with ⟨rfl, rfl⟩ | ⟨rfl, rfl⟩ | ⟨rfl, rfl⟩
    · obtain rfl := Option.some.inj (ho.symm.trans (List.getElem?_toArray.trans rfl))
      exact app_wp 84 9 1 16 (.string ⟨#[]⟩) Tryz.underlying84 info9 rfl (by omega) (by omega) w1 (.tmp 95) (.tmp 98) rfl _ _ m _ ((eval_left 95 rfl).trans (hpv ⟨1, .data⟩ (by simp) rfl _ rfl)) hown1 y _ rfl rfl ((eval_left 98 rfl).trans hyB) hy1 (by omega) hC.lt hR
    · obtain rfl := Option.some.inj (ho.symm.trans (List.getElem?_toArray.trans rfl))
      exact app_wp 22 65 5 64 (.agg #[.string ⟨#[]⟩, .slice none 0 0, .int .i64 0, .int .i64 0, .int .i64 0]) Tryz.underlying22 info65 rfl (by omega) (by omega) w1 (.tmp 101) (.tmp 107) rfl _ _ m _ ((eval_left 101 rfl).trans (hpv ⟨7, .data⟩ (by simp) rfl _ rfl)) hown1 y _ rfl rfl ((eval_left 107 rfl).trans hyB) hy1 (by omega) hC.lt hR
    · obtain rfl := Option.some.inj (ho.symm.trans (List.getElem?_toArray.trans rfl))
      exact app_wp 44 3 1 8 (.int .i64 0) Tryz.underlying44 info3 rfl (by omega) (by omega) w1 (.tmp 110) (.tmp 113) rfl _ _ m _ ((eval_left 110 rfl).trans (hpv ⟨16, .data⟩ (by simp) rfl _ rfl)) hown1 y _ rfl rfl ((eval_left 113 rfl).trans hyB) hy1 (by omega) hC.lt hR
  case dep =>
    intro k c o hck ho
    rcases ch_cases3 hck with ⟨rfl, rfl⟩ | ⟨rfl, rfl⟩ | ⟨rfl, rfl⟩
    · obtain rfl := Option.some.inj (ho.symm.trans (List.getElem?_toArray.trans rfl))
      exact ⟨⟨4, .data⟩, by simp, rfl, rfl⟩
    · obtain rfl := Option.some.inj (ho.symm.trans (List.getElem?_toArray.trans rfl))
      exact ⟨⟨13, .data⟩, by simp, rfl, rfl⟩
    · obtain rfl := Option.some.inj (ho.symm.trans (List.getElem?_toArray.trans rfl))
      exact ⟨⟨19, .data⟩, by simp, rfl, rfl⟩
  case fin =>
    intro a w1 hsb hC hown1 hpv
    have hL := par_list hown1
    obtain ⟨A0, k0, e0⟩ := own_slice (hL.1 0 _ rfl)
    obtain ⟨A1, k1, e1⟩ := own_slice (hL.1 1 _ rfl)
    obtain ⟨A2, k2, e2⟩ := own_slice (hL.1 2 _ rfl)
    dsimp only [Ch.new] at e0 e1 e2
    have v0 : a.tmps[99]?.getD undef = .slice A0 (m + 1) k0 := (leftAt_get 99 rfl).trans e0
    have v1 : a.tmps[108]?.getD undef = .slice A1 (m + 1) k1 := (leftAt_get 108 rfl).trans e1
    have v2 : a.tmps[114]?.getD undef = .slice A2 (m + 1) k2 := (leftAt_get 114 rfl).trans e2
    have s6 : a.tmps[6]?.getD undef = .pointer (some ⟨w.heap.size + 4, 0, none⟩) := hsb.get 6 (by kernel_rfl) h6
    have s115 : a.tmps[115]?.getD undef = .pointer (some ⟨w.heap.size + 4, 0, none⟩) := (leftAt_get 115 rfl).trans (hpv 21 _ (by omega) rfl)
    have HSa := Lib.hid (show a.tmps.size = 288 from hsb.2.1.trans hsz)
    have hL2 : OwnL (w.heap.size + 5) ([⟨9, 1, .slice A0 (m + 1) k0, m + 1, xa ++ [.string fas]⟩, ⟨65, 5, .slice A1 (m + 1) k1, m + 1, xt ++ [.string t.name, .slice t.ca t.cn t.cc, .int .i64 t.root, .int .i64 t.next, .int .i64 t.rows]⟩, ⟨3, 1, .slice A2 (m + 1) k2, m + 1, xg ++ [.int .i64 wd]⟩] ++ rs) w1 := by
      have := hL
      rw [List.map_cons, List.map_cons, List.map_cons, List.map_nil] at this
      dsimp only [Ch.new] at this
      rw [e0, e1, e2] at this
      exact this
    clear e0 e1 e2 hL hown1
    have hC1 := hC.setC 0 (.slice A0 (m + 1) k0)
    have hC2 := hC1.setC 1 (.slice A1 (m + 1) k1)
    have hC3 := hC2.setC 2 (.slice A2 (m + 1) k2)
    have q0 := cell_of_row _ _ 0 _ _ _ hC.sc
    have y0 := frozen_of_row _ _ 0 _ _ hC.sc
    have q1 := cell_of_row _ _ 1 _ _ _ hC1.sc
    have y1 := frozen_of_row _ _ 1 _ _ hC1.sc
    have q2 := cell_of_row _ _ 2 _ _ _ hC2.sc
    have y2 := frozen_of_row _ _ 2 _ _ hC2.sc
    simp only [List.drop_succ_cons, List.drop_zero]
    refine wpList_plain rfl fun R1 hR1 => ?_
    go_simp
    refine hR1 _ _ ?_
    clear hR1
    refine wpList_plain rfl fun R2 hR2 => ?_
    go_simp
    refine hR2 _ _ ?_
    clear hR2
    have g116 : ({ tmps := a.tmps.setIfInBounds 116 (.pointer (some ⟨w.heap.size + 4, 1, none⟩)), defers := a.defers } : Act).tmps[116]?.getD undef = .pointer (some ⟨w.heap.size + 4, 1, none⟩) := put_same (a := a) (t := 116) (by rw [HSa.out]; decide)
    have g108 : ({ tmps := a.tmps.setIfInBounds 116 (.pointer (some ⟨w.heap.size + 4, 1, none⟩)), defers := a.defers } : Act).tmps[108]?.getD undef = .slice A1 (m + 1) k1 := (put_ne (a := a) (t := 116) (by decide)).trans v1
    have g114 : ({ tmps := a.tmps.setIfInBounds 116 (.pointer (some ⟨w.heap.size + 4, 1, none⟩)), defers := a.defers } : Act).tmps[114]?.getD undef = .slice A2 (m + 1) k2 := (put_ne (a := a) (t := 116) (by decide)).trans v2
    have g6 : ({ tmps := a.tmps.setIfInBounds 116 (.pointer (some ⟨w.heap.size + 4, 1, none⟩)), defers := a.defers } : Act).tmps[6]?.getD undef = .pointer (some ⟨w.heap.size + 4, 0, none⟩) := (put_ne (a := a) (t := 116) (by decide)).trans s6
    have HPTa := Lib.hid (show (∀ t, t ≠ 116 → ({ tmps := a.tmps.setIfInBounds 116 (.pointer (some ⟨w.heap.size + 4, 1, none⟩)), defers := a.defers } : Act).tmps.getD t undef = a.tmps.getD t undef) ∧ ({ tmps := a.tmps.setIfInBounds 116 (.pointer (some ⟨w.heap.size + 4, 1, none⟩)), defers := a.defers } : Act).defers = a.defers from ⟨fun t ht => by rw [Array.getD_eq_getD_getElem?, Array.getD_eq_getD_getElem?]; exact put_ne (a := a) (fun e => ht e.symm), rfl⟩)
    have HSa2 := Lib.hid (show ({ tmps := a.tmps.setIfInBounds 116 (.pointer (some ⟨w.heap.size + 4, 1, none⟩)), defers := a.defers } : Act).tmps.size = 288 by rw [← HSa.out]; simp)
    generalize ({ tmps := a.tmps.setIfInBounds 116 (.pointer (some ⟨w.heap.size + 4, 1, none⟩)), defers := a.defers } : Act) = a2 at g116 g108 g114 g6 HPTa HSa2 ⊢
    refine wpList_plain rfl fun R3 hR3 => ?_
    go_simp
    refine hR3 _ _ ?_
    clear hR3
    refine wpList_plain rfl fun R4 hR4 => ?_
    go_simp
    refine hR4 _ _ ?_
    clear hR4
    have g117 : ({ tmps := a2.tmps.setIfInBounds 117 (.pointer (some ⟨w.heap.size + 4, 2, none⟩)), defers := a2.defers } : Act).tmps[117]?.getD undef = .pointer (some ⟨w.heap.size + 4, 2, none⟩) := put_same (a := a2) (t := 117) (by rw [HSa2.out]; decide)
    have g114 : ({ tmps := a2.tmps.setIfInBounds 117 (.pointer (some ⟨w.heap.size + 4, 2, none⟩)), defers := a2.defers } : Act).tmps[114]?.getD undef = .slice A2 (m + 1) k2 := (put_ne (a := a2) (t := 117) (by decide)).trans g114
    have HPTa2 := Lib.hid (show (∀ t, t ≠ 117 → ({ tmps := a2.tmps.setIfInBounds 117 (.pointer (some ⟨w.heap.size + 4, 2, none⟩)), defers := a2.defers } : Act).tmps.getD t undef = a2.tmps.getD t undef) ∧ ({ tmps := a2.tmps.setIfInBounds 117 (.pointer (some ⟨w.heap.size + 4, 2, none⟩)), defers := a2.defers } : Act).defers = a2.defers from ⟨fun t ht => by rw [Array.getD_eq_getD_getElem?, Array.getD_eq_getD_getElem?]; exact put_ne (a := a2) (fun e => ht e.symm), rfl⟩)
    have HSa3 := Lib.hid (show ({ tmps := a2.tmps.setIfInBounds 117 (.pointer (some ⟨w.heap.size + 4, 2, none⟩)), defers := a2.defers } : Act).tmps.size = 288 by rw [← HSa2.out]; simp)
    generalize ({ tmps := a2.tmps.setIfInBounds 117 (.pointer (some ⟨w.heap.size + 4, 2, none⟩)), defers := a2.defers } : Act) = a3 at g117 g114 HPTa2 HSa3 ⊢
    refine wpList_plain rfl fun R5 hR5 => ?_
    go_simp
    refine hR5 _ _ ?_
    clear hR5
    refine hQ a3 _ A0 k0 A1 k1 A2 k2 (HPTa2.out.2.trans (HPTa.out.2.trans hsb.1)) HSa3.out (fun t ht => ?_) hC3 (((hL2.far (by omega) _).far (by omega) _).far (by omega) _)
    refine (HPTa2.out.1 t (by omega)).trans ((HPTa.out.1 t (by omega)).trans (hsb.2.2 t (fun j hj e => ?_)))
    have : j = 0 ∨ j = 1 ∨ j = 2 ∨ j = 3 ∨ j = 4 ∨ j = 5 ∨ j = 6 ∨ j = 7 ∨ j = 8 ∨ j = 9 ∨ j = 10 ∨ j = 11 ∨ j = 12 ∨ j = 13 ∨ j = 14 ∨ j = 15 ∨ j = 16 ∨ j = 17 ∨ j = 18 ∨ j = 19 ∨ j = 20 ∨ j = 21 := by omega
    rcases this with rfl | rfl | rfl | rfl | rfl | rfl | rfl | rfl | rfl | rfl | rfl | rfl | rfl | rfl | rfl | rfl | rfl | rfl | rfl | rfl | rfl | rfl <;> (cases e; omega)
set_option maxRecDepth 100000 in
set_option maxHeartbeats 16000000 in
theorem reg13 (w : World) (xr cr : Array Value) (tb tf sn sk : Nat) (six : Value) (q0 q1 q3 q4 q5 q6 q7 q8 : Value) (wd : Int) (k : Nat) (t : Tab) (rs : List Rw) (W0 : World) (a0 : Act) (hsz : a0.tmps.size = 288) (h2 : a0.tmps.getD 2 undef = .pointer (some ⟨w.heap.size, 0, none⟩)) (h5 : a0.tmps.getD 5 undef = .pointer (some ⟨w.heap.size + 3, 0, none⟩)) (h9 : a0.tmps.getD 9 undef = .int .i64 (k : Int))
    (ht : ∀ (i : Nat) (v : Value), (tabL t)[i]? = some v → w.cell? ⟨tb, tf + k * 5 + i, none⟩ = some v) (hkn : k < sn) (hwd : 0 ≤ wd ∧ wd ≤ 100000) (htn : t.cn ≤ 100000)
    (hc : CM w #[.slice (some ⟨tb, tf, none⟩) sn sk, six] xr #[q0, q1, .int .i64 wd, q3, q4, q5, q6, q7, q8] cr W0) (hown : OwnL (w.heap.size + 5) rs W0) {Q : Exit → Act → World → Prop}
    (hQ : ∀ a' W', a'.defers = a0.defers → a'.tmps.size = 288 → (∀ t, (t < 118 ∨ 128 < t) → a'.tmps.getD t undef = a0.tmps.getD t undef) → CM w #[.slice (some ⟨tb, tf, none⟩) sn sk, six] xr #[q0, q1, .int .i64 (wd + (t.cn : Int)), q3, q4, q5, q6, q7, q8] cr W' → OwnL (w.heap.size + 5) rs W' → Q .normal a' W') : (regC 13).wp Tryz.prog Q a0 W0 := by
  conv => arg 2; whnf
  refine wp_region_par (n0 := 11) (n := 288) (steady_cm w #[.slice (some ⟨tb, tf, none⟩) sn sk, six] xr #[q0, q1, .int .i64 wd, q3, q4, q5, q6, q7, q8] cr) [] rs (fun j => (([some (.pointer (some ⟨w.heap.size + 3, 2, none⟩)), some (.int .i64 wd), some (.pointer (some ⟨w.heap.size, 0, none⟩)), some (.slice (some ⟨tb, tf, none⟩) sn sk), some (.int .i64 (k : Int)), some (.pointer (some ⟨tb, tf + k * 5, none⟩)), some (.pointer (some ⟨tb, tf + k * 5 + 1, none⟩)), some (.slice t.ca t.cn t.cc), some (.int .i64 (t.cn : Int)), some (.int .i64 (wd + (t.cn : Int))), some (.pointer (some ⟨w.heap.size + 3, 2, none⟩))] : List (Option Value))[j]?).getD none) (chOk_of rfl) (by kernel_rfl) (by kernel_rfl) (Nat.le_of_eq hsz.symm) hc (OwnL.par hown) ?kind ?pure ?dst ?build ?us ?lt ?app ?dep ?fin
  case kind =>
    intro i hi
    have : i = 0 ∨ i = 1 ∨ i = 2 ∨ i = 3 ∨ i = 4 ∨ i = 5 ∨ i = 6 ∨ i = 7 ∨ i = 8 ∨ i = 9 ∨ i = 10 := by omega
    rcases this with rfl | rfl | rfl | rfl | rfl | rfl | rfl | rfl | rfl | rfl | rfl
    · exact Or.inl ⟨_, rfl, fun c hc => by cases hc⟩
    · exact Or.inl ⟨_, rfl, fun c hc => by cases hc⟩
    · exact Or.inl ⟨_, rfl, fun c hc => by cases hc⟩
    · exact Or.inl ⟨_, rfl, fun c hc => by cases hc⟩
    · exact Or.inl ⟨_, rfl, fun c hc => by cases hc⟩
    · exact Or.inl ⟨_, rfl, fun c hc => by cases hc⟩
    · exact Or.inl ⟨_, rfl, fun c hc => by cases hc⟩
    · exact Or.inl ⟨_, rfl, fun c hc => by cases hc⟩
    · exact Or.inl ⟨_, rfl, fun c hc => by cases hc⟩
    · exact Or.inl ⟨_, rfl, fun c hc => by cases hc⟩
    · exact Or.inl ⟨_, rfl, fun c hc => by cases hc⟩
  case pure =>
    intro i o x hi hx ho a w1 hsb hC hrs hpv
    have : i = 0 ∨ i = 1 ∨ i = 2 ∨ i = 3 ∨ i = 4 ∨ i = 5 ∨ i = 6 ∨ i = 7 ∨ i = 8 ∨ i = 9 ∨ i = 10 := by omega
    rcases this with rfl | rfl | rfl | rfl | rfl | rfl | rfl | rfl | rfl | rfl | rfl
    · cases hx
      obtain rfl := Option.some.inj (ho.symm.trans (List.getElem?_toArray.trans rfl))
      have s5 : a.tmps[5]?.getD undef = .pointer (some ⟨w.heap.size + 3, 0, none⟩) := hsb.get 5 (by kernel_rfl) h5
      go_simp
      all_goals exact ⟨rfl, rfl⟩
    · cases hx
      obtain rfl := Option.some.inj (ho.symm.trans (List.getElem?_toArray.trans rfl))
      have d0 : a.tmps[118]?.getD undef = .pointer (some ⟨w.heap.size + 3, 2, none⟩) := (leftAt_get 118 rfl).trans (hpv ⟨0, .data⟩ (by simp) rfl _ rfl)
      have q2 := cell_of_row _ _ 2 _ _ _ hC.q
      go_simp
      all_goals exact ⟨rfl, rfl⟩
    · cases hx
      obtain rfl := Option.some.inj (ho.symm.trans (List.getElem?_toArray.trans rfl))
      have s2 : a.tmps[2]?.getD undef = .pointer (some ⟨w.heap.size, 0, none⟩) := hsb.get 2 (by kernel_rfl) h2
      go_simp
      all_goals exact ⟨rfl, rfl⟩
    · cases hx
      obtain rfl := Option.some.inj (ho.symm.trans (List.getElem?_toArray.trans rfl))
      have d2 : a.tmps[120]?.getD undef = .pointer (some ⟨w.heap.size, 0, none⟩) := (leftAt_get 120 rfl).trans (hpv ⟨2, .data⟩ (by simp) rfl _ rfl)
      have c2 := cell_of_row _ _ 0 _ _ _ hC.sb
      go_simp
      all_goals exact ⟨rfl, rfl⟩
    · cases hx
      obtain rfl := Option.some.inj (ho.symm.trans (List.getElem?_toArray.trans rfl))
      have s9 : a.tmps[9]?.getD undef = .int .i64 (k : Int) := hsb.get 9 (by kernel_rfl) h9
      go_simp
      all_goals exact ⟨rfl, rfl⟩
    · cases hx
      obtain rfl := Option.some.inj (ho.symm.trans (List.getElem?_toArray.trans rfl))
      have d3 : a.tmps[121]?.getD undef = .slice (some ⟨tb, tf, none⟩) sn sk := (leftAt_get 121 rfl).trans (hpv ⟨3, .data⟩ (by simp) rfl _ rfl)
      have d4 : a.tmps[122]?.getD undef = .int .i64 (k : Int) := (leftAt_get 122 rfl).trans (hpv ⟨4, .data⟩ (by simp) rfl _ rfl)
      have hkn : ((k : Int) < (sn : Int)) = True := eq_true (by omega)
      go_simp
      all_goals exact ⟨rfl, rfl⟩
    · cases hx
      obtain rfl := Option.some.inj (ho.symm.trans (List.getElem?_toArray.trans rfl))
      have d5 : a.tmps[123]?.getD undef = .pointer (some ⟨tb, tf + k * 5, none⟩) := (leftAt_get 123 rfl).trans (hpv ⟨5, .data⟩ (by simp) rfl _ rfl)
      go_simp
      all_goals exact ⟨rfl, rfl⟩
    · cases hx
      obtain rfl := Option.some.inj (ho.symm.trans (List.getElem?_toArray.trans rfl))
      have d6 : a.tmps[124]?.getD undef = .pointer (some ⟨tb, tf + k * 5 + 1, none⟩) := (leftAt_get 124 rfl).trans (hpv ⟨6, .data⟩ (by simp) rfl _ rfl)
      have t1 : w1.cell? ⟨tb, tf + k * 5 + 1, none⟩ = some (.slice t.ca t.cn t.cc) := cell_kept (ht 1 _ rfl) hC.below
      go_simp
      all_goals exact ⟨rfl, rfl⟩
    · cases hx
      obtain rfl := Option.some.inj (ho.symm.trans (List.getElem?_toArray.trans rfl))
      have d7 : a.tmps[125]?.getD undef = .slice t.ca t.cn t.cc := (leftAt_get 125 rfl).trans (hpv ⟨7, .data⟩ (by simp) rfl _ rfl)
      go_simp
      all_goals exact ⟨rfl, rfl⟩
    · cases hx
      obtain rfl := Option.some.inj (ho.symm.trans (List.getElem?_toArray.trans rfl))
      have d1 : a.tmps[119]?.getD undef = .int .i64 wd := (leftAt_get 119 rfl).trans (hpv ⟨1, .data⟩ (by simp) rfl _ rfl)
      have d8 : a.tmps[126]?.getD undef = .int .i64 (t.cn : Int) := (leftAt_get 126 rfl).trans (hpv ⟨8, .data⟩ (by simp) rfl _ rfl)
      have hwr : IntKind.i64.wrap (wd + (t.cn : Int)) = wd + (t.cn : Int) := IntWalk.i64_in _ (by omega)
      go_simp
      all_goals exact ⟨rfl, rfl⟩
    · cases hx
      obtain rfl := Option.some.inj (ho.symm.trans (List.getElem?_toArray.trans rfl))
      have s5 : a.tmps[5]?.getD undef = .pointer (some ⟨w.heap.size + 3, 0, none⟩) := hsb.get 5 (by kernel_rfl) h5
      go_simp
      all_goals exact ⟨rfl, rfl⟩
  case dst =>
    intro i o hi ho
    have : i = 0 ∨ i = 1 ∨ i = 2 ∨ i = 3 ∨ i = 4 ∨ i = 5 ∨ i = 6 ∨ i = 7 ∨ i = 8 ∨ i = 9 ∨ i = 10 := by omega
    rcases this with rfl | rfl | rfl | rfl | rfl | rfl | rfl | rfl | rfl | rfl | rfl <;> (obtain rfl := Option.some.inj (ho.symm.trans (List.getElem?_toArray.trans rfl)); exact fun h => by cases h)
  case build => exact fun k c o hck => by simp at hck
  case us => exact fun c hc => by cases hc
  case lt => exact fun c hc => by cases hc
  case app => exact fun k c o hck => by simp at hck
  case dep => exact fun k c o hck => by simp at hck
  case fin =>
    intro a w1 hsb hC hown1 hpv
    have hL := par_list hown1
    have s128 : a.tmps[128]?.getD undef = .pointer (some ⟨w.heap.size + 3, 2, none⟩) := (leftAt_get 128 rfl).trans (hpv 10 _ (by omega) rfl)
    have s127 : a.tmps[127]?.getD undef = .int .i64 (wd + (t.cn : Int)) := (leftAt_get 127 rfl).trans (hpv 9 _ (by omega) rfl)
    have hL2 : OwnL (w.heap.size + 5) rs w1 := hL
    have hC1 := hC.setQ 2 (.int .i64 (wd + (t.cn : Int)))
    have q2 := cell_of_row _ _ 2 _ _ _ hC.q
    have y2 := frozen_of_row _ _ 2 _ _ hC.q
    simp only [List.drop_succ_cons, List.drop_zero]
    refine wpList_plain rfl fun R1 hR1 => ?_
    go_simp
    refine hR1 _ _ ?_
    refine hQ a _ hsb.1 (hsb.2.1.trans hsz) (fun t ht => ?_) hC1 (hL2.far (by omega) _)
    refine hsb.2.2 t (fun j hj e => ?_)
    have : j = 0 ∨ j = 1 ∨ j = 2 ∨ j = 3 ∨ j = 4 ∨ j = 5 ∨ j = 6 ∨ j = 7 ∨ j = 8 ∨ j = 9 ∨ j = 10 := by omega
    rcases this with rfl | rfl | rfl | rfl | rfl | rfl | rfl | rfl | rfl | rfl | rfl <;> (cases e; omega)
end Go.Proofs.YthdmfaepjemopaaGreatDoor
