/- The walk of BindAs: the three lists, called by the other name. The walk of BindAs: the orders, called by the other name. The walk of BindAs: any schema, any statement. The walk of BindSound: any schema, any statement. -/
import Derived.Test.YthdmfaepjemopaaGreatDoorQBF
import Derived.Test.YthdmfaepjemopaaGreatDoorQBE
namespace Go.Proofs.YthdmfaepjemopaaGreatDoor
open Go.RowKit

theorem s3_held {w W : World} {u0 u1 v0 v1 v2 v3 v4 v5 v6 v7 v8 v9 v10 v11 : Value} (h : BX w [.cells #[u0, u1] 25, .cells #[v0, v1, v2, v3, v4, v5, v6, v7, v8, v9, v10, v11] 33] W) : W.cell? ⟨w.heap.size + 1, 6, none⟩ = some v6 ∧ W.cell? ⟨w.heap.size + 1, 8, none⟩ = some v8 ∧ W.cell? ⟨w.heap.size + 1, 9, none⟩ = some v9 := by
  have h1 := h.row 1 _ _ rfl
  exact ⟨cell_of_row _ _ 6 _ _ _ h1, cell_of_row _ _ 8 _ _ _ h1, cell_of_row _ _ 9 _ _ _ h1⟩
set_option maxRecDepth 100000 in
set_option maxHeartbeats 16000000 in
theorem as7 (n : Nat) (_ts : List (Tab × List Col)) (w : World) (A : Option Addr) (m c : Nat) (ia : Option Addr) (il ik : Nat) (k : Int) (xtab : ByteArray) (ya : Option Addr) (yn yc : Nat) (za : Option Addr) (zn zc : Nat) (va : Option Addr) (vn vc : Nat) (star : Bool) (xA : Option Addr) (xq xc : Nat) (fb fo fc : Nat) (hA : Option Addr) (hq hc : Nat) (uA : Option Addr) (uq uc : Nat) (pA : Option Addr) (pq pc : Nat) (lim : Int) (yb frb : Nat) (tn was : ByteArray) (xs hs us : List Ex) (hxq : xq = xs.length) (hhq : hq = hs.length) (huq : uq = us.length) (a : Act) (W : World) (hS : S4 w yb a)
    (hD : DS w [.cells #[.slice A m c, .slice ia il ik] 25, .cells #[.int .i64 k, .string xtab, .slice ya yn yc, .slice za zn zc, .slice va vn vc, .bool star, .slice xA xq xc, .slice (some ⟨fb, fo, none⟩) 1 fc, .slice hA hq hc, .slice uA uq uc, .slice pA pq pc, .int .i64 lim] 33] yb #[.int .i64 k, .string xtab, .slice ya yn yc, .slice za zn zc, .slice va vn vc, .bool star, .slice xA xq xc, .slice (some ⟨frb, 0, none⟩) 1 1, .slice hA hq hc, .slice uA uq uc, .slice pA pq pc, .int .i64 lim] (FX n frb tn none [] none [] none [] []) (.slice none 0 0) 0 [] W)
    (HX : ∀ W', Below w.heap.size w W' → W'.cell? ⟨w.heap.size + 1, 7, none⟩ = some (.slice (some ⟨fb, fo, none⟩) 1 fc) → Calls Tryz.prog 12 #[.slice xA xq xc, .pointer (some ⟨w.heap.size + 1, 0, none⟩)] W' (TurnO n W' was xs))
    (HH : ∀ W', Below w.heap.size w W' → W'.cell? ⟨w.heap.size + 1, 7, none⟩ = some (.slice (some ⟨fb, fo, none⟩) 1 fc) → Calls Tryz.prog 12 #[.slice hA hq hc, .pointer (some ⟨w.heap.size + 1, 0, none⟩)] W' (TurnO n W' was hs))
    (HU : ∀ W', Below w.heap.size w W' → W'.cell? ⟨w.heap.size + 1, 7, none⟩ = some (.slice (some ⟨fb, fo, none⟩) 1 fc) → Calls Tryz.prog 12 #[.slice uA uq uc, .pointer (some ⟨w.heap.size + 1, 0, none⟩)] W' (TurnO n W' was us))
    (HSEG : ∀ (B1 : Option Addr) (k1 : Nat) (y1 : List Ex) (B2 : Option Addr) (k2 : Nat) (y2 : List Ex) (B3 : Option Addr) (k3 : Nat) (y3 : List Ex) a W', S4 w yb a → DS w [.cells #[.slice A m c, .slice ia il ik] 25, .cells #[.int .i64 k, .string xtab, .slice ya yn yc, .slice za zn zc, .slice va vn vc, .bool star, .slice xA xq xc, .slice (some ⟨fb, fo, none⟩) 1 fc, .slice hA hq hc, .slice uA uq uc, .slice pA pq pc, .int .i64 lim] 33] yb #[.int .i64 k, .string xtab, .slice ya yn yc, .slice za zn zc, .slice va vn vc, .bool star, .slice B1 xq k1, .slice (some ⟨frb, 0, none⟩) 1 1, .slice B2 hq k2, .slice B3 uq k3, .slice none 0 0, .int .i64 lim] (FX n frb tn B1 y1 B2 y2 B3 y3 []) (.slice none 0 0) 0 [] W' → Pair (CallsX was otherN n) xs y1 → Pair (CallsX was otherN n) hs y2 → Pair (CallsX was otherN n) us y3 → (bfC 8).wp Tryz.prog (bodyPost Tryz.prog Tryz.f4 (RetV (.bool true) w)) a W') : (bfC 7).wp Tryz.prog (bodyPost Tryz.prog Tryz.f4 (RetV (.bool true) w)) a W := by
  have HSEG := Lib.hid HSEG
  have HD := Lib.hid hD
  have HXQ := Lib.hid hxq
  have HHQ := Lib.hid hhq
  have HUQ := Lib.hid huq
  have HDD := Lib.hid (hD.keep (fx_stay ..) (Below.refl _ W).drew)
  have HX := Lib.hid (HX W.drew HDD.out.bx.below (cell_of_row _ _ 7 _ _ _ (HDD.out.bx.row 1 _ _ rfl)))
  have HH := Lib.hid HH
  have HU := Lib.hid HU
  obtain ⟨s0, s1, s2, s3, s4, s5, s6, s7, s8, s9, s10, s11, s12, s13⟩ := hD.bx.two12
  clear hD hxq hhq huq
  obtain ⟨u, hu, hug⟩ := open142 hS.size
  have p2 := hS.s2; have p3 := hS.s3; have p7 := hS.s7; have p8 := hS.s8
  have hdf := hS.df
  rw [hug _ (by omega)] at p2 p3 p7 p8
  obtain ⟨tm, df⟩ := a
  dsimp only at hu hdf
  subst hu hdf
  clear hS hug
  rw [p2, p3, p7, p8]
  clear p2 p3 p7 p8
  conv => arg 2; whnf
  refine wp_seq_k fun K hK => ?_
  have HK := Lib.hid (show ∀ a w', (bfC 8).wp Tryz.prog (bodyPost Tryz.prog Tryz.f4 (RetV (.bool true) w)) a w' → K a w' from hK)
  clear hK
  go_region_held3 (fun wx => wx.cell? ⟨w.heap.size + 1, 6, none⟩ = some (.slice xA xq xc) ∧ wx.cell? ⟨w.heap.size + 1, 8, none⟩ = some (.slice hA hq hc) ∧ wx.cell? ⟨w.heap.size + 1, 9, none⟩ = some (.slice uA uq uc))
    (first
      | (with_reducible exact s3_held HDD.out.bx)
      | (with_reducible exact s3_held HD5.out.bx)
      | (with_reducible exact s3_held HD6.out.bx)
      | (with_reducible exact s3_held HD7.out.bx)
      | (with_reducible exact s3_held HF1.out.bx)
      | (with_reducible exact s3_held HF2.out.bx)
      | (with_reducible exact s3_held HF3.out.bx)
      | (with_reducible exact s3_held HF4.out.bx)
      | fail)
    (first
    | (go_at_call 12; (with_reducible refine HX.out.mono ?_); rintro e w5 ⟨hB5, B1, k1, y1, rfl, hC5, hA5, hI5, hP5⟩
       have HP5 := Lib.hid hP5
       have HD5 := Lib.hid ((HDD.out.keep (fx_stay ..) hB5).re (F' := FX n frb tn B1 y1 none [] none [] []) fun h => ⟨h.fr, turn_set (_was := was) (_l := xs) HDD.out.lt hC5 hA5 hI5, h.s2, h.s3, h.os⟩)
       obtain ⟨a0, a1, a2, a3, a4, a5, a6, a7, a8, a9, a10, a11, a12, a13⟩ := HD5.out.bx.two12
       clear hB5 hC5 hA5 hI5 hP5)
    | (go_at_call 12; (with_reducible refine (HH.out _ HD5.out.bx.below (cell_of_row _ _ 7 _ _ _ (HD5.out.bx.row 1 _ _ rfl))).mono ?_); rintro e w6 ⟨hB6, B2, k2, y2, rfl, hC6, hA6, hI6, hP6⟩
       have HP6 := Lib.hid hP6
       have HD6 := Lib.hid ((HD5.out.keep (fx_stay ..) hB6).re (F' := FX n frb tn B1 y1 B2 y2 none [] []) fun h => ⟨h.fr, h.s1, turn_set (_was := was) (_l := hs) HD5.out.lt hC6 hA6 hI6, h.s3, h.os⟩)
       obtain ⟨b0, b1, b2, b3, b4, b5, b6, b7, b8, b9, b10, b11, b12, b13⟩ := HD6.out.bx.two12
       clear hB6 hC6 hA6 hI6 hP6)
    | (go_at_call 12; (with_reducible refine (HU.out _ HD6.out.bx.below (cell_of_row _ _ 7 _ _ _ (HD6.out.bx.row 1 _ _ rfl))).mono ?_); rintro e w7 ⟨hB7, B3, k3, y3, rfl, hC7, hA7, hI7, hP7⟩
       have HP7 := Lib.hid hP7
       have HD7 := Lib.hid ((HD6.out.keep (fx_stay ..) hB7).re (F' := FX n frb tn B1 y1 B2 y2 B3 y3 []) fun h => ⟨h.fr, h.s1, h.s2, turn_set (_was := was) (_l := us) HD6.out.lt hC7 hA7 hI7, h.os⟩)
       obtain ⟨r0, r1, r2, r3, r4, r5, r6, r7, r8, r9, r10, r11⟩ := row12 HD7.out.y
       have g6 := frozen_of_row _ _ 6 _ _ HD7.out.y
       have g8 := frozen_of_row _ _ 8 _ _ HD7.out.y
       have g9 := frozen_of_row _ _ 9 _ _ HD7.out.y
       have g10 := frozen_of_row _ _ 10 _ _ HD7.out.y
       have hz7 := HD7.out.lt
       have HF1 := Lib.hid (HD7.out.setY (fx_stay ..) 6 (.slice B1 y1.length k1))
       have HF2 := Lib.hid (HF1.out.setY (fx_stay ..) 8 (.slice B2 y2.length k2))
       have HF3 := Lib.hid (HF2.out.setY (fx_stay ..) 9 (.slice B3 y3.length k3))
       have HF4 := Lib.hid (HF3.out.setY (fx_stay ..) 10 (.slice none 0 0))
       clear hB7 hC7 hA7 hI7 hP7)
    | fail)
  all_goals
    have HF := HF4
    have e1 : y1.length = xq := by rw [HXQ.out]; exact HP5.out.1
    have e2 : y2.length = hq := by rw [HHQ.out]; exact HP6.out.1
    have e3 : y3.length = uq := by rw [HUQ.out]; exact HP7.out.1
    rw [e1, e2, e3] at HF
    try rw [e1, e2, e3]
    try go_wp2_with fail
    refine HK.out _ _ (HSEG.out B1 k1 y1 B2 k2 y2 B3 k3 y3 _ _ ⟨?_, ?_, ?_, ?_, ?_, ?_⟩ HF.out HP5.out HP6.out HP7.out)
    all_goals rfl
end Go.Proofs.YthdmfaepjemopaaGreatDoor
namespace Go.Proofs.YthdmfaepjemopaaGreatDoor
open Go.RowKit

theorem s18_held {w W : World} {fb fo zb : Nat} {was : Value} {u0 u1 v0 v1 v2 v3 v4 v5 v6 v7 v8 v9 v10 v11 z0 z1 z2 z3 z4 z5 z6 z7 z8 z9 z10 : Value} {ty : TypeId} (h : BX w [.cells #[u0, u1] 25, .cells #[v0, v1, v2, v3, v4, v5, v6, v7, v8, v9, v10, v11] 33] W) (hf : W.cell? ⟨fb, fo + 1, none⟩ = some was) (hz : W.heap[zb]? = some (.cells #[z0, z1, z2, z3, z4, z5, z6, z7, z8, z9, z10] ty)) : W.cell? ⟨w.heap.size + 1, 7, none⟩ = some v7 ∧ W.cell? ⟨fb, fo + 1, none⟩ = some was ∧ W.cell? ⟨zb, 0, none⟩ = some z0 ∧ W.cell? ⟨zb, 1, none⟩ = some z1 ∧ W.cell? ⟨zb, 2, none⟩ = some z2 ∧ W.cell? ⟨zb, 3, none⟩ = some z3 ∧ W.cell? ⟨zb, 4, none⟩ = some z4 ∧ W.cell? ⟨zb, 5, none⟩ = some z5 ∧ W.cell? ⟨zb, 6, none⟩ = some z6 ∧ W.cell? ⟨zb, 7, none⟩ = some z7 ∧ W.cell? ⟨zb, 8, none⟩ = some z8 ∧ W.cell? ⟨zb, 9, none⟩ = some z9 ∧ W.cell? ⟨zb, 10, none⟩ = some z10 :=
  ⟨cell_of_row _ _ 7 _ _ _ (h.row 1 _ _ rfl), hf, cell_of_row _ _ 0 _ _ _ hz, cell_of_row _ _ 1 _ _ _ hz, cell_of_row _ _ 2 _ _ _ hz, cell_of_row _ _ 3 _ _ _ hz, cell_of_row _ _ 4 _ _ _ hz, cell_of_row _ _ 5 _ _ _ hz, cell_of_row _ _ 6 _ _ _ hz, cell_of_row _ _ 7 _ _ _ hz, cell_of_row _ _ 8 _ _ _ hz, cell_of_row _ _ 9 _ _ _ hz, cell_of_row _ _ 10 _ _ _ hz⟩
/-- which of the four has been done, and what then holds -/
def PhO (W0 : World → Prop) (PC : Value → World → Prop) (PB : Value → Value → World → Prop) (PA : Value → Value → World → Prop) (bld : Value → Value) : Option Value → Option Value → Option Value → Option Value → World → Prop
  | none, b, s, v, W => b = none ∧ s = none ∧ v = none ∧ W0 W
  | some z, b, none, v, W => v = none ∧ (∀ x, b = some x → x = bld z) ∧ PC z W
  | some z, b, some s, none, W => b ≠ none ∧ PB z s W
  | some z, b, some _, some v, W => b ≠ none ∧ PA z v W
theorem wp_region_one {P : Program} {ops : Array Oper} {Q : Exit → Act → World → Prop} {n0 n id : Nat} {a0 : Act} {w0 : World} (S : World → Prop) (pv : Nat → Value) (ic ib is ia : Nat) (W0 : World → Prop) (PC : Value → World → Prop) (PB PA : Value → Value → World → Prop) (bld : Value → Value)
    (hm : P.follows .mixedOrders = true) (hf : regionT ops n0 n = true) (hn : n ≤ a0.tmps.size) (hS : S w0.drew) (hW : W0 w0.drew)
    (hlt : ic < n0 ∧ ib < n0 ∧ is < n0 ∧ ia < n0) (hne : ic ≠ ib ∧ ic ≠ is ∧ ic ≠ ia ∧ ib ≠ is ∧ ib ≠ ia ∧ is ≠ ia)
    (hdst : ∀ i o, i < n0 → ops[i]? = some o → o.dst ≠ none)
    (hdep : (∀ o, ops[ib]? = some o → ∃ e ∈ o.after, Region.binds .any e = true ∧ e.on = ic) ∧ (∀ o, ops[is]? = some o → ∃ e ∈ o.after, Region.binds .any e = true ∧ e.on = ib) ∧ (∀ o, ops[ia]? = some o → ∃ e ∈ o.after, Region.binds .any e = true ∧ e.on = is))
    (hstep : ∀ i o, i < n0 → i ≠ ic → i ≠ ib → i ≠ is → i ≠ ia → ops[i]? = some o → ∀ a w, SameBut ops n0 a0 a → S w → (∀ e ∈ o.after, Region.binds .any e = true → e.on < n0 → e.on ≠ ic → e.on ≠ ib → e.on ≠ is → e.on ≠ ia → leftAt ops a e.on = pv e.on) → Oper.wp P o a w (fun a' w' => a' = a.put o.dst (pv i) ∧ w' = w) Q)
    (hcall : ∀ o, ops[ic]? = some o → ∀ a w, SameBut ops n0 a0 a → S w → W0 w → (∀ e ∈ o.after, Region.binds .any e = true → e.on < n0 → e.on ≠ ic → e.on ≠ ib → e.on ≠ is → e.on ≠ ia → leftAt ops a e.on = pv e.on) → Oper.wp P o a w (fun a' w' => ∃ z, a' = a.put o.dst z ∧ S w' ∧ PC z w') Q)
    (hbld : ∀ o, ops[ib]? = some o → ∀ z a w, SameBut ops n0 a0 a → S w → PC z w → leftAt ops a ic = z → (∀ e ∈ o.after, Region.binds .any e = true → e.on < n0 → e.on ≠ ic → e.on ≠ ib → e.on ≠ is → e.on ≠ ia → leftAt ops a e.on = pv e.on) → Oper.wp P o a w (fun a' w' => a' = a.put o.dst (bld z) ∧ w' = w) Q)
    (hslc : ∀ o, ops[is]? = some o → ∀ z a w, SameBut ops n0 a0 a → S w → PC z w → leftAt ops a ib = bld z → Oper.wp P o a w (fun a' w' => ∃ s, a' = a.put o.dst s ∧ S w' ∧ PB z s w') Q)
    (happ : ∀ o, ops[ia]? = some o → ∀ z s a w, SameBut ops n0 a0 a → S w → PB z s w → leftAt ops a is = s → (∀ e ∈ o.after, Region.binds .any e = true → e.on < n0 → e.on ≠ ic → e.on ≠ ib → e.on ≠ is → e.on ≠ ia → leftAt ops a e.on = pv e.on) → Oper.wp P o a w (fun a' w' => ∃ v, a' = a.put o.dst v ∧ S w' ∧ PA z v w') Q)
    (hend : ∀ z v a w, SameBut ops n0 a0 a → S w → PA z v w → leftAt ops a ia = v → (∀ j, j < n0 → j ≠ ic → j ≠ ib → j ≠ is → j ≠ ia → leftAt ops a j = pv j) → wpList P ops Q (ops.toList.drop n0) a w) :
    (Code.region id ops true).wp P Q a0 w0 := by
  obtain ⟨c1, c2, c3, c4, c5, c6⟩ := hne
  obtain ⟨l1, l2, l3, l4⟩ := hlt
  obtain ⟨d1, d2, d3⟩ := hdep
  have dv : ∀ i o v, i < n0 → ops[i]? = some o → dstVal o v = v := fun i o v hi ho => by
    unfold dstVal
    cases hd : o.dst with
    | none => exact absurd hd (hdst i o hi ho)
    | some d => rfl
  have e1 : ∀ (st : Done) i v, (st.set i v) i = some v := fun st i v => by unfold Done.set; rw [if_pos rfl]
  have e2 : ∀ (st : Done) i v j, j ≠ i → (st.set i v) j = st j := fun st i v j h => by unfold Done.set; rw [if_neg h]
  refine wp_region_T (n0 := n0) (n := n) (fun st w => S w ∧ (∀ j x, st j = some x → j < n0 → j ≠ ic → j ≠ ib → j ≠ is → j ≠ ia → x = pv j) ∧ PhO W0 PC PB PA bld (st ic) (st ib) (st is) (st ia) w) hm hf hn ⟨hS, fun j x h => (by cases h), rfl, rfl, rfl, hW⟩ (fun i o hi ho st a w hsb hJ hnone hde => ?_) (fun st a w hsb hJ hall => ?_)
  · obtain ⟨hs, hv, hp⟩ := hJ
    have hdv : ∀ e ∈ o.after, Region.binds .any e = true → e.on < n0 → e.on ≠ ic → e.on ≠ ib → e.on ≠ is → e.on ≠ ia → leftAt ops a e.on = pv e.on := fun e he hb hl h1 h2 h3 h4 => hv e.on _ (hde e he hb) hl h1 h2 h3 h4
    by_cases h1 : i = ic
    · subst h1
      rw [hnone] at hp
      refine Oper.wp_mono (fun a' w' ⟨z, ha, hs', hpc⟩ => ?_) (hcall o ho a w hsb hs hp.2.2.2 hdv)
      refine ⟨z, ha, hs', fun j x hx hj k1 k2 k3 k4 => hv j x (by rw [e2 _ _ _ _ k1] at hx; exact hx) hj k1 k2 k3 k4, ?_⟩
      rw [dv _ o z hi ho, e1, e2 _ _ _ _ (Ne.symm c1), e2 _ _ _ _ (Ne.symm c2), e2 _ _ _ _ (Ne.symm c3), hp.1, hp.2.1, hp.2.2.1]
      exact ⟨rfl, fun x h => (by cases h), hpc⟩
    · by_cases h2 : i = ib
      · subst h2
        obtain ⟨e, he, hb, hon⟩ := d1 o ho
        have hc := hde e he hb
        rw [hon] at hc
        rw [hc] at hp
        rw [hnone] at hp
        cases hsl : st is with
        | some s =>
          rw [hsl] at hp
          cases hv4 : st ia with
          | none => rw [hv4] at hp; exact absurd rfl hp.1
          | some v => rw [hv4] at hp; exact absurd rfl hp.1
        | none =>
          rw [hsl] at hp
          refine Oper.wp_mono (fun a' w' ⟨ha, hw⟩ => ?_) (hbld o ho _ a w hsb hs hp.2.2 rfl hdv)
          subst hw
          refine ⟨_, ha, hs, fun j x hx hj k1 k2 k3 k4 => hv j x (by rw [e2 _ _ _ _ k2] at hx; exact hx) hj k1 k2 k3 k4, ?_⟩
          rw [dv _ o _ hi ho, e1, e2 _ _ _ _ c1, e2 _ _ _ _ (Ne.symm c4), e2 _ _ _ _ (Ne.symm c5), hc, hsl]
          exact ⟨hp.1, fun x h => (Option.some.inj h).symm, hp.2.2⟩
      · by_cases h3 : i = is
        · subst h3
          obtain ⟨e, he, hb, hon⟩ := d2 o ho
          have hbd := hde e he hb
          rw [hon] at hbd
          rw [hnone, hbd] at hp
          cases hc : st ic with
          | none => rw [hc] at hp; cases hp.1
          | some z =>
            rw [hc] at hp
            refine Oper.wp_mono (fun a' w' ⟨s, ha, hs', hpb⟩ => ?_) (hslc o ho z a w hsb hs hp.2.2 (hp.2.1 _ rfl))
            refine ⟨s, ha, hs', fun j x hx hj k1 k2 k3 k4 => hv j x (by rw [e2 _ _ _ _ k3] at hx; exact hx) hj k1 k2 k3 k4, ?_⟩
            rw [dv _ o _ hi ho, e1, e2 _ _ _ _ c2, e2 _ _ _ _ c4, e2 _ _ _ _ (Ne.symm c6), hc, hp.1, hbd]
            exact ⟨by simp, hpb⟩
        · by_cases h4 : i = ia
          · subst h4
            obtain ⟨e, he, hb, hon⟩ := d3 o ho
            have hsd := hde e he hb
            rw [hon] at hsd
            rw [hnone, hsd] at hp
            cases hc : st ic with
            | none => rw [hc] at hp; cases hp.2.1
            | some z =>
              rw [hc] at hp
              refine Oper.wp_mono (fun a' w' ⟨v, ha, hs', hpa⟩ => ?_) (happ o ho z _ a w hsb hs hp.2 rfl hdv)
              refine ⟨v, ha, hs', fun j x hx hj k1 k2 k3 k4 => hv j x (by rw [e2 _ _ _ _ k4] at hx; exact hx) hj k1 k2 k3 k4, ?_⟩
              rw [dv _ o _ hi ho, e1, e2 _ _ _ _ c3, e2 _ _ _ _ c5, e2 _ _ _ _ c6, hc, hsd]
              exact ⟨hp.1, hpa⟩
          · refine Oper.wp_mono (fun a' w' ⟨ha, hw⟩ => ?_) (hstep i o hi h1 h2 h3 h4 ho a w hsb hs hdv)
            subst hw
            refine ⟨_, ha, hs, fun j x hx hj k1 k2 k3 k4 => ?_, ?_⟩
            · by_cases hji : j = i
              · subst hji
                rw [dv _ o _ hi ho, e1] at hx
                exact (Option.some.inj hx).symm
              · rw [e2 _ _ _ _ hji] at hx
                exact hv j x hx hj k1 k2 k3 k4
            · rw [e2 _ _ _ _ (Ne.symm h1), e2 _ _ _ _ (Ne.symm h2), e2 _ _ _ _ (Ne.symm h3), e2 _ _ _ _ (Ne.symm h4)]
              exact hp
  · obtain ⟨hs, hv, hp⟩ := hJ
    rw [hall _ l1, hall _ l3, hall _ l4] at hp
    exact hend _ _ a w hsb hs hp.2 rfl fun j hj k1 k2 k3 k4 => hv j _ (hall j hj) hj k1 k2 k3 k4
/-- an append of one, in a step of its own -/
theorem app_lit (T E K B : Nat) (z : Value) (hT : Tryz.prog.underlying T = some (.slice E)) (hI : (Tryz.prog.info? E).map (fun i => (i.zero, i.size, i.bytes)) = some (some z, K, B)) (hzK : z.cells.size = K) (hK0 : 0 < K) (hB : B ≤ 1000)
    (w : World) {o : Oper} {a : Act} {R : Act → World → Prop} {Q : Exit → Act → World → Prop} (s x : Operand)
    (ho : o.op = .call { callee := .builtin .append, args := #[s, x], argTypes := #[T, T] }) (base : Nat) (v : Value) (n : Nat) (xs : List Value) (hv : a.eval s = v) (hown : w.ownsRow base E K v n xs)
    (b c : Nat) (us : List Value) (hus : us.length = K) (hone : us.all Value.oneCell' = true) (hx : a.eval x = .slice (some ⟨b, 0, none⟩) 1 c) (hq : w.heap[b]? = some (.cells us.toArray E)) (hl : n ≤ 100000) (hbase : base ≤ w.heap.size)
    (h : ∀ v' w', w'.ownsRow base E K v' (n + 1) (xs ++ us) → w.grownBy w' v.ownBlock → (v'.ownBlock = v.ownBlock ∨ v'.ownBlock = some w.heap.size) → R (a.put o.dst v') w') : Oper.wp Tryz.prog o a w R Q := by
  obtain ⟨i0, hi0, hz0, hz1, hz2⟩ := info_parts hI
  obtain ⟨v', w', hrun, g2, g3, _, g5⟩ := run_append_own_at (P := Tryz.prog) w base T o.type E i0 z K B hT hi0 hz0 hz1 hz2 hzK hK0 v n xs hown ⟨b, 0, none⟩ 1 c us (by omega)
    (fun j u hj => by
      rw [Addr.add_lit, Nat.zero_add, cell_of_row w b j _ _ _ hq]
      simpa using hj)
    (fun u hu => List.all_eq_true.1 hone u hu) (by unfold maxLen; omega) (Nat.le_trans (Nat.mul_le_mul (show n + 1 ≤ 100001 by omega) hB) (by omega)) hbase
  unfold Oper.wp
  simp only [execOp, ho, resolve, invoke, builtin, Sem.run_bind, Sem.run_pure, Result.andThen_ok, List.map_toArray, List.map_cons, List.map_nil, hv, hx, hrun]
  exact h v' w' g2 g3 g5
set_option maxRecDepth 100000 in
set_option maxHeartbeats 16000000 in
theorem as8 (n : Nat) (_ts : List (Tab × List Col)) (w : World) (A : Option Addr) (m c : Nat) (ia : Option Addr) (il ik : Nat) (k : Int) (xtab : ByteArray) (ya : Option Addr) (yn yc : Nat) (za : Option Addr) (zn zc : Nat) (va : Option Addr) (vn vc : Nat) (star : Bool) (xA : Option Addr) (xq xc : Nat) (fb fo fc : Nat) (hA : Option Addr) (hq hc : Nat) (uA : Option Addr) (uq uc : Nat) (pA : Option Addr) (pq pc : Nat) (lim : Int) (yb frb : Nat) (tn was : ByteArray) (hw : was ≠ otherN) (B1 : Option Addr) (k1 : Nat) (y1 : List Ex) (B2 : Option Addr) (k2 : Nat) (y2 : List Ex) (B3 : Option Addr) (k3 : Nat) (y3 : List Ex) (ol : List (Ex × Bool)) (hpq : pq = ol.length) (hp12 : pq ≤ 12) (a : Act) (W : World) (hS : S4 w yb a)
    (hD : DS w [.cells #[.slice A m c, .slice ia il ik] 25, .cells #[.int .i64 k, .string xtab, .slice ya yn yc, .slice za zn zc, .slice va vn vc, .bool star, .slice xA xq xc, .slice (some ⟨fb, fo, none⟩) 1 fc, .slice hA hq hc, .slice uA uq uc, .slice pA pq pc, .int .i64 lim] 33] yb #[.int .i64 k, .string xtab, .slice ya yn yc, .slice za zn zc, .slice va vn vc, .bool star, .slice B1 xq k1, .slice (some ⟨frb, 0, none⟩) 1 1, .slice B2 hq k2, .slice B3 uq k3, .slice none 0 0, .int .i64 lim] (FX n frb tn B1 y1 B2 y2 B3 y3 []) (.slice none 0 0) 0 [] W) (hO : CellsAt w 11 pA (ol.map ordL)) (hOE : ∀ o ∈ ol, ExAt w n o.1 ∧ SmallX n o.1) (hf : w.cell? ⟨fb, fo + 1, none⟩ = some (.string was))
    (HSEG : ∀ (pB : Option Addr) (pk : Nat) (os : List (Ex × Bool)) a W', S4 w yb a → DS w [.cells #[.slice A m c, .slice ia il ik] 25, .cells #[.int .i64 k, .string xtab, .slice ya yn yc, .slice za zn zc, .slice va vn vc, .bool star, .slice xA xq xc, .slice (some ⟨fb, fo, none⟩) 1 fc, .slice hA hq hc, .slice uA uq uc, .slice pA pq pc, .int .i64 lim] 33] yb #[.int .i64 k, .string xtab, .slice ya yn yc, .slice za zn zc, .slice va vn vc, .bool star, .slice B1 xq k1, .slice (some ⟨frb, 0, none⟩) 1 1, .slice B2 hq k2, .slice B3 uq k3, .slice pB pq pk, .int .i64 lim] (FX n frb tn B1 y1 B2 y2 B3 y3 (os.map Prod.fst)) (.slice pB pq pk) os.length (os.map ordL).flatten W' → Pair (fun a b => CallsX was otherN n a.1 b.1 ∧ b.2 = a.2) ol os → (bfC 9).wp Tryz.prog (bodyPost Tryz.prog Tryz.f4 (RetV (.bool true) w)) a W') : (bfC 8).wp Tryz.prog (bodyPost Tryz.prog Tryz.f4 (RetV (.bool true) w)) a W := by
  have HSEG := Lib.hid HSEG
  have HO := Lib.hid hO
  have HON := Lib.hid hpq
  have HF := Lib.hid hf
  have HST := Lib.hid (show DS w [.cells #[.slice A m c, .slice ia il ik] 25, .cells #[.int .i64 k, .string xtab, .slice ya yn yc, .slice za zn zc, .slice va vn vc, .bool star, .slice xA xq xc, .slice (some ⟨fb, fo, none⟩) 1 fc, .slice hA hq hc, .slice uA uq uc, .slice pA pq pc, .int .i64 lim] 33] yb #[.int .i64 k, .string xtab, .slice ya yn yc, .slice za zn zc, .slice va vn vc, .bool star, .slice B1 xq k1, .slice (some ⟨frb, 0, none⟩) 1 1, .slice B2 hq k2, .slice B3 uq k3, .slice none 0 0, .int .i64 lim] (FX n frb tn B1 y1 B2 y2 B3 y3 (([] : List (Ex × Bool)).map Prod.fst)) (.slice none 0 0) ([] : List (Ex × Bool)).length (([] : List (Ex × Bool)).map ordL).flatten W from hD)
  have HC := Lib.hid (show ∀ o ∈ ol, ∀ W, Below w.heap.size w W → Calls Tryz.prog 13 #[exV o.1, .string was, .string otherN] W (CalO n W was otherN o.1) from fun o ho W hB => called_any was hw n o.1 W ((hOE o ho).1.keep hB) (hOE o ho).2)
  unfold otherN at HC
  clear hO hOE hpq hf
  obtain ⟨s0, s1, s2, s3, s4, s5, s6, s7, s8, s9, s10, s11, s12, s13⟩ := hD.bx.two12
  clear hD
  obtain ⟨u, hu, hug⟩ := open142 hS.size
  have p2 := hS.s2; have p3 := hS.s3; have p7 := hS.s7; have p8 := hS.s8
  have hdf := hS.df
  rw [hug _ (by omega)] at p2 p3 p7 p8
  obtain ⟨tm, df⟩ := a
  dsimp only at hu hdf
  subst hu hdf
  clear hS hug
  rw [p2, p3, p7, p8]
  clear p2 p3 p7 p8
  conv => arg 2; whnf
  refine wp_seq_k fun K hK => ?_
  have HK := Lib.hid (show ∀ a w', (bfC 9).wp Tryz.prog (bodyPost Tryz.prog Tryz.f4 (RetV (.bool true) w)) a w' → K a w' from hK)
  clear hK
  go_wp2_with fail
  clear s0 s1 s2 s3 s4 s5 s6 s7 s8 s9 s10 s11 s12 s13
  refine wp_loop (fun a' wr => S4 w yb a' ∧ a'.tmps.getD 99 undef = .slice pA pq pc ∧ a'.tmps.getD 100 undef = .int .i64 pq ∧ ∃ (j : Nat) (oA : Option Addr) (oc : Nat) (os : List (Ex × Bool)), j ≤ pq ∧ a'.tmps.getD 101 undef = .int .i64 j ∧ Hid (os.length = j) ∧ Hid (Pair (fun a b => CallsX was otherN n a.1 b.1 ∧ b.2 = a.2) (ol.take j) os) ∧ Hid (DS w [.cells #[.slice A m c, .slice ia il ik] 25, .cells #[.int .i64 k, .string xtab, .slice ya yn yc, .slice za zn zc, .slice va vn vc, .bool star, .slice xA xq xc, .slice (some ⟨fb, fo, none⟩) 1 fc, .slice hA hq hc, .slice uA uq uc, .slice pA pq pc, .int .i64 lim] 33] yb #[.int .i64 k, .string xtab, .slice ya yn yc, .slice za zn zc, .slice va vn vc, .bool star, .slice B1 xq k1, .slice (some ⟨frb, 0, none⟩) 1 1, .slice B2 hq k2, .slice B3 uq k3, .slice oA j oc, .int .i64 lim] (FX n frb tn B1 y1 B2 y2 B3 y3 (os.map Prod.fst)) (.slice oA j oc) os.length (os.map ordL).flatten wr)) (fun a' _ => pq - (intOf (a'.tmps.getD 101 undef)).toNat) ?start ?round
  case start =>
    refine ⟨⟨?_, ?_, ?_, ?_, ?_, ?_⟩, ?_, ?_, 0, none, 0, [], Nat.zero_le _, ?_, Lib.hid rfl, Lib.hid ⟨rfl, fun i a b h => by cases h⟩, HST⟩
    all_goals rfl
  case round =>
    clear HST
    rintro a wr ⟨hS, hsl, hln, j, oA, oc, os, hj, hix, HL, HP, HD⟩
    obtain ⟨u, hu, hug⟩ := open142 hS.size
    have p2 := hS.s2; have p3 := hS.s3; have p7 := hS.s7; have p8 := hS.s8
    have hdf := hS.df
    rw [hug _ (by omega)] at p2 p3 p7 p8 hsl hln hix
    obtain ⟨tm, df⟩ := a
    dsimp only at hu hdf
    subst hu hdf
    clear hS hug
    rw [p2, p3, p7, p8, hsl, hln, hix]
    clear p2 p3 p7 p8 hsl hln hix
    by_cases hjq : j < pq
    · have hjn : ((j : Int) < (pq : Int)) = True := eq_true (by omega)
      obtain ⟨o, ho⟩ : ∃ o, ol[j]? = some o := ⟨_, List.getElem?_eq_getElem (by have := HON.out; omega)⟩
      obtain ⟨eb, eo, rfl, heb, hyc⟩ := setl_at HO.out (x := ordL o) (by rw [List.getElem?_map, ho]; rfl)
      have HJ := Lib.hid ho
      have HCX := Lib.hid (HC.out o (List.mem_of_getElem? ho))
      obtain ⟨x, od⟩ := o
      dsimp only at HCX
      have t0 : wr.cell? ⟨eb, eo + j * 11, none⟩ = some (.int .i64 x.kind) := cell_kept (hyc 0 _ rfl) HD.out.bx.below
      have t1 := cell_kept (hyc 1 _ rfl) HD.out.bx.below
      have t2 := cell_kept (hyc 2 _ rfl) HD.out.bx.below
      have t3 := cell_kept (hyc 3 _ rfl) HD.out.bx.below
      have t4 := cell_kept (hyc 4 _ rfl) HD.out.bx.below
      have t5 := cell_kept (hyc 5 _ rfl) HD.out.bx.below
      have t6 := cell_kept (hyc 6 _ rfl) HD.out.bx.below
      have t7 := cell_kept (hyc 7 _ rfl) HD.out.bx.below
      have t8 := cell_kept (hyc 8 _ rfl) HD.out.bx.below
      have t9 := cell_kept (hyc 9 _ rfl) HD.out.bx.below
      have t10 := cell_kept (hyc 10 _ rfl) HD.out.bx.below
      have sf := store_float
      clear hyc ho
      go_wp2_with fail
      clear t0 t1 t2 t3 t4 t5 t6 t7 t8 t9 t10
      have HBX := Lib.hid (heap_alloc_new wr (.cells #[.int .i64 x.kind, .string x.op, .int .i64 x.lit.k, .int .i64 x.lit.n, .float .f64 x.lit.f, .string x.lit.s, .string x.table, .string x.name, .bool x.neg, .slice x.A x.args.length x.c, .bool od] 43))
      have HD3 := Lib.hid (HD.out.keep (fx_stay ..) (below1 wr (.cells #[.int .i64 x.kind, .string x.op, .int .i64 x.lit.k, .int .i64 x.lit.n, .float .f64 x.lit.f, .string x.lit.s, .string x.table, .string x.name, .bool x.neg, .slice x.A x.args.length x.c, .bool od] 43)))
      have hny := HD.out.lt
      have hno := own_base HD.out.own
      obtain ⟨zb, hzb⟩ : ∃ b, b = wr.heap.size := ⟨_, rfl⟩
      rw [← hzb] at HBX hny hno ⊢
      have HNE := Lib.hid (show yb ≠ zb from fun e => by omega)
      have HNB := Lib.hid (show (.slice oA j oc : Value).ownBlock ≠ some zb from fun e => by have := (hno zb e).2; omega)
      clear hzb HD hny hno
      generalize wr.alloc (.cells #[.int .i64 x.kind, .string x.op, .int .i64 x.lit.k, .int .i64 x.lit.n, .float .f64 x.lit.f, .string x.lit.s, .string x.table, .string x.name, .bool x.neg, .slice x.A x.args.length x.c, .bool od] 43) = w3 at HBX HD3 ⊢
      have HDD := Lib.hid (HD3.out.keep (fx_stay ..) (Below.refl _ w3).drew)
      have HCL := Lib.hid (HCX.out w3.drew HDD.out.bx.below)
      have HFD := Lib.hid (cell_kept HF.out HDD.out.bx.below)
      have HZD := Lib.hid (show w3.drew.heap[zb]? = _ from HBX.out)
      have yd10 := cell_of_row _ _ 10 _ _ _ HDD.out.y
      obtain ⟨s0, s1, s2, s3, s4, s5, s6, s7, s8, s9, s10, s11, s12, s13⟩ := HD3.out.bx.two12
      have f1 := cell_kept HF.out HD3.out.bx.below
      have y10 := cell_of_row _ _ 10 _ _ _ HD3.out.y
      obtain ⟨x0, x1, x2, x3, x4, x5, x6, x7, x8, x9, x10⟩ : w3.cell? ⟨zb, 0, none⟩ = some (.int .i64 x.kind) ∧ w3.cell? ⟨zb, 1, none⟩ = some (.string x.op) ∧ w3.cell? ⟨zb, 2, none⟩ = some (.int .i64 x.lit.k) ∧ w3.cell? ⟨zb, 3, none⟩ = some (.int .i64 x.lit.n) ∧ w3.cell? ⟨zb, 4, none⟩ = some (.float .f64 x.lit.f) ∧ w3.cell? ⟨zb, 5, none⟩ = some (.string x.lit.s) ∧ w3.cell? ⟨zb, 6, none⟩ = some (.string x.table) ∧ w3.cell? ⟨zb, 7, none⟩ = some (.string x.name) ∧ w3.cell? ⟨zb, 8, none⟩ = some (.bool x.neg) ∧ w3.cell? ⟨zb, 9, none⟩ = some (.slice x.A x.args.length x.c) ∧ w3.cell? ⟨zb, 10, none⟩ = some (.bool od) := ⟨cell_of_row _ _ 0 _ _ _ HBX.out, cell_of_row _ _ 1 _ _ _ HBX.out, cell_of_row _ _ 2 _ _ _ HBX.out, cell_of_row _ _ 3 _ _ _ HBX.out, cell_of_row _ _ 4 _ _ _ HBX.out, cell_of_row _ _ 5 _ _ _ HBX.out, cell_of_row _ _ 6 _ _ _ HBX.out, cell_of_row _ _ 7 _ _ _ HBX.out, cell_of_row _ _ 8 _ _ _ HBX.out, cell_of_row _ _ 9 _ _ _ HBX.out, cell_of_row _ _ 10 _ _ _ HBX.out⟩
      refine Code.wp_mono (Q := fun e a' w' => e = .normal ∧ S4 w yb a' ∧ a'.tmps.getD 99 undef = .slice (some ⟨eb, eo, none⟩) pq pc ∧ a'.tmps.getD 100 undef = .int .i64 pq ∧ a'.tmps.getD 101 undef = .int .i64 j ∧ ∃ (A8 : Option Addr) (c8 : Nat) (z : Ex), Hid (CallsX was otherN n x z) ∧ Hid (DS w [.cells #[.slice A m c, .slice ia il ik] 25, .cells #[.int .i64 k, .string xtab, .slice ya yn yc, .slice za zn zc, .slice va vn vc, .bool star, .slice xA xq xc, .slice (some ⟨fb, fo, none⟩) 1 fc, .slice hA hq hc, .slice uA uq uc, .slice (some ⟨eb, eo, none⟩) pq pc, .int .i64 lim] 33] yb #[.int .i64 k, .string xtab, .slice ya yn yc, .slice za zn zc, .slice va vn vc, .bool star, .slice B1 xq k1, .slice (some ⟨frb, 0, none⟩) 1 1, .slice B2 hq k2, .slice B3 uq k3, .slice A8 (os.length + 1) c8, .int .i64 lim] (FX n frb tn B1 y1 B2 y2 B3 y3 (os.map Prod.fst ++ [z])) (.slice A8 (os.length + 1) c8) (os.length + 1) ((os.map ordL).flatten ++ ordL (z, od)) w')) ?rest ?reg
      case reg =>
        refine wp_region_one (n0 := 16) (n := 142) (fun W => (W.cell? ⟨w.heap.size + 1, 7, none⟩ = some (.slice (some ⟨fb, fo, none⟩) 1 fc) ∧ W.cell? ⟨fb, fo + 1, none⟩ = some (.string was) ∧ W.cell? ⟨zb, 0, none⟩ = some (.int .i64 x.kind) ∧ W.cell? ⟨zb, 1, none⟩ = some (.string x.op) ∧ W.cell? ⟨zb, 2, none⟩ = some (.int .i64 x.lit.k) ∧ W.cell? ⟨zb, 3, none⟩ = some (.int .i64 x.lit.n) ∧ W.cell? ⟨zb, 4, none⟩ = some (.float .f64 x.lit.f) ∧ W.cell? ⟨zb, 5, none⟩ = some (.string x.lit.s) ∧ W.cell? ⟨zb, 6, none⟩ = some (.string x.table) ∧ W.cell? ⟨zb, 7, none⟩ = some (.string x.name) ∧ W.cell? ⟨zb, 8, none⟩ = some (.bool x.neg) ∧ W.cell? ⟨zb, 9, none⟩ = some (.slice x.A x.args.length x.c) ∧ W.cell? ⟨zb, 10, none⟩ = some (.bool od)) ∧ W.cell? ⟨yb, 10, none⟩ = some (.slice oA j oc)) (fun i => (([.pointer (some ⟨yb, 10, none⟩), .slice oA j oc, .pointer (some ⟨zb, 0, none⟩), exV x, .pointer (some ⟨w.heap.size + 1, 7, none⟩), .slice (some ⟨fb, fo, none⟩) 1 fc, .pointer (some ⟨fb, fo, none⟩), .pointer (some ⟨fb, fo + 1, none⟩), .string was, undef, .pointer (some ⟨zb, 10, none⟩), .bool od, undef, undef, undef, .pointer (some ⟨yb, 10, none⟩)] : List Value)[i]?).getD undef) 9 12 13 14 (fun W => W = w3.drew)
          (fun z W => ∃ y : Ex, z = exV y ∧ CallsX was otherN n x y ∧ (DS w [.cells #[.slice A m c, .slice ia il ik] 25, .cells #[.int .i64 k, .string xtab, .slice ya yn yc, .slice za zn zc, .slice va vn vc, .bool star, .slice xA xq xc, .slice (some ⟨fb, fo, none⟩) 1 fc, .slice hA hq hc, .slice uA uq uc, .slice (some ⟨eb, eo, none⟩) pq pc, .int .i64 lim] 33] yb #[.int .i64 k, .string xtab, .slice ya yn yc, .slice za zn zc, .slice va vn vc, .bool star, .slice B1 xq k1, .slice (some ⟨frb, 0, none⟩) 1 1, .slice B2 hq k2, .slice B3 uq k3, .slice oA j oc, .int .i64 lim] (FX n frb tn B1 y1 B2 y2 B3 y3 (os.map Prod.fst)) (.slice oA j oc) os.length (os.map ordL).flatten W) ∧ ExIn (okD yb (.slice oA j oc)) W n y ∧ W.heap[zb]? = some (.cells #[.int .i64 x.kind, .string x.op, .int .i64 x.lit.k, .int .i64 x.lit.n, .float .f64 x.lit.f, .string x.lit.s, .string x.table, .string x.name, .bool x.neg, .slice x.A x.args.length x.c, .bool od] 43))
          (fun z s W => ∃ (y : Ex) (nb : Nat), z = exV y ∧ CallsX was otherN n x y ∧ (DS w [.cells #[.slice A m c, .slice ia il ik] 25, .cells #[.int .i64 k, .string xtab, .slice ya yn yc, .slice za zn zc, .slice va vn vc, .bool star, .slice xA xq xc, .slice (some ⟨fb, fo, none⟩) 1 fc, .slice hA hq hc, .slice uA uq uc, .slice (some ⟨eb, eo, none⟩) pq pc, .int .i64 lim] 33] yb #[.int .i64 k, .string xtab, .slice ya yn yc, .slice za zn zc, .slice va vn vc, .bool star, .slice B1 xq k1, .slice (some ⟨frb, 0, none⟩) 1 1, .slice B2 hq k2, .slice B3 uq k3, .slice oA j oc, .int .i64 lim] (FX n frb tn B1 y1 B2 y2 B3 y3 (os.map Prod.fst)) (.slice oA j oc) os.length (os.map ordL).flatten W) ∧ ExIn (okD yb (.slice oA j oc)) W n y ∧ W.heap[zb]? = some (.cells #[.int .i64 x.kind, .string x.op, .int .i64 x.lit.k, .int .i64 x.lit.n, .float .f64 x.lit.f, .string x.lit.s, .string x.table, .string x.name, .bool x.neg, .slice x.A x.args.length x.c, .bool od] 43) ∧ s = .slice (some ⟨nb, 0, none⟩) 1 1 ∧ W.heap[nb]? = some (.cells (ordL (y, od)).toArray 43))
          (fun z v W => ∃ (y : Ex) (A8 : Option Addr) (c8 : Nat), z = exV y ∧ CallsX was otherN n x y ∧ v = .slice A8 (os.length + 1) c8 ∧ DS w [.cells #[.slice A m c, .slice ia il ik] 25, .cells #[.int .i64 k, .string xtab, .slice ya yn yc, .slice za zn zc, .slice va vn vc, .bool star, .slice xA xq xc, .slice (some ⟨fb, fo, none⟩) 1 fc, .slice hA hq hc, .slice uA uq uc, .slice (some ⟨eb, eo, none⟩) pq pc, .int .i64 lim] 33] yb #[.int .i64 k, .string xtab, .slice ya yn yc, .slice za zn zc, .slice va vn vc, .bool star, .slice B1 xq k1, .slice (some ⟨frb, 0, none⟩) 1 1, .slice B2 hq k2, .slice B3 uq k3, .slice oA j oc, .int .i64 lim] (FX n frb tn B1 y1 B2 y2 B3 y3 (os.map Prod.fst ++ [y])) (.slice A8 (os.length + 1) c8) (os.length + 1) ((os.map ordL).flatten ++ ordL (y, od)) W)
          (fun z => match z with | .agg fs => .agg (fs.push (.bool od)) | v => v) (by kernel_rfl) (by kernel_rfl) (Nat.le_of_eq rfl) ⟨s18_held HDD.out.bx HFD.out HZD.out, yd10⟩ rfl (by decide) (by decide) ?dst ?dep ?step ?call ?bld ?slc ?app ?fin
        case dst =>
          intro i o2 hi ho
          have : i = 0 ∨ i = 1 ∨ i = 2 ∨ i = 3 ∨ i = 4 ∨ i = 5 ∨ i = 6 ∨ i = 7 ∨ i = 8 ∨ i = 9 ∨ i = 10 ∨ i = 11 ∨ i = 12 ∨ i = 13 ∨ i = 14 ∨ i = 15 := by omega
          rcases this with rfl | rfl | rfl | rfl | rfl | rfl | rfl | rfl | rfl | rfl | rfl | rfl | rfl | rfl | rfl | rfl <;> (obtain rfl := Option.some.inj (ho.symm.trans (List.getElem?_toArray.trans rfl)); exact fun h => by cases h)
        case dep =>
          refine ⟨fun o2 ho => ?_, fun o2 ho => ?_, fun o2 ho => ?_⟩ <;> obtain rfl := Option.some.inj (ho.symm.trans (List.getElem?_toArray.trans rfl))
          · exact ⟨⟨9, .data⟩, by simp, rfl, rfl⟩
          · exact ⟨⟨12, .data⟩, by simp, rfl, rfl⟩
          · exact ⟨⟨13, .data⟩, by simp, rfl, rfl⟩
        case step =>
          intro i o2 hi n1 n2 n3 n4 ho a w1 hsb hS hpv
          obtain ⟨⟨q7, qf, q0, q1, q2, q3, q4, q5, q6, qq7, q8, q9, q10⟩, qy⟩ := hS
          have : i = 0 ∨ i = 1 ∨ i = 2 ∨ i = 3 ∨ i = 4 ∨ i = 5 ∨ i = 6 ∨ i = 7 ∨ i = 8 ∨ i = 10 ∨ i = 11 ∨ i = 15 := by omega
          rcases this with rfl | rfl | rfl | rfl | rfl | rfl | rfl | rfl | rfl | rfl | rfl | rfl
          · obtain rfl := Option.some.inj (ho.symm.trans (List.getElem?_toArray.trans rfl))
            have p7 : a.tmps[7]?.getD undef = .pointer (some ⟨yb, 0, none⟩) := hsb.get 7 (by kernel_rfl) rfl
            go_simp
            all_goals first | exact ⟨rfl, rfl⟩ | exact rfl | trace_state
          · obtain rfl := Option.some.inj (ho.symm.trans (List.getElem?_toArray.trans rfl))
            have d105 : a.tmps[105]?.getD undef = .pointer (some ⟨yb, 10, none⟩) := (leftAt_get 105 rfl).trans (hpv ⟨0, .data⟩ (by simp) rfl (by decide) (by decide) (by decide) (by decide) (by decide))
            go_simp
            all_goals first | exact ⟨rfl, rfl⟩ | exact rfl | trace_state
          · obtain rfl := Option.some.inj (ho.symm.trans (List.getElem?_toArray.trans rfl))
            have p10 : a.tmps[10]?.getD undef = .pointer (some ⟨zb, 0, none⟩) := hsb.get 10 (by kernel_rfl) rfl
            go_simp
            all_goals first | exact ⟨rfl, rfl⟩ | exact rfl | trace_state
          · obtain rfl := Option.some.inj (ho.symm.trans (List.getElem?_toArray.trans rfl))
            have d107 : a.tmps[107]?.getD undef = .pointer (some ⟨zb, 0, none⟩) := (leftAt_get 107 rfl).trans (hpv ⟨2, .data⟩ (by simp) rfl (by decide) (by decide) (by decide) (by decide) (by decide))
            go_simp
            all_goals first | exact ⟨rfl, rfl⟩ | exact rfl | trace_state
          · obtain rfl := Option.some.inj (ho.symm.trans (List.getElem?_toArray.trans rfl))
            have p3 : a.tmps[3]?.getD undef = .pointer (some ⟨w.heap.size + 1, 0, none⟩) := hsb.get 3 (by kernel_rfl) rfl
            go_simp
            all_goals first | exact ⟨rfl, rfl⟩ | exact rfl | trace_state
          · obtain rfl := Option.some.inj (ho.symm.trans (List.getElem?_toArray.trans rfl))
            have d109 : a.tmps[109]?.getD undef = .pointer (some ⟨w.heap.size + 1, 7, none⟩) := (leftAt_get 109 rfl).trans (hpv ⟨4, .data⟩ (by simp) rfl (by decide) (by decide) (by decide) (by decide) (by decide))
            go_simp
            all_goals first | exact ⟨rfl, rfl⟩ | exact rfl | trace_state
          · obtain rfl := Option.some.inj (ho.symm.trans (List.getElem?_toArray.trans rfl))
            have d110 : a.tmps[110]?.getD undef = .slice (some ⟨fb, fo, none⟩) 1 fc := (leftAt_get 110 rfl).trans (hpv ⟨5, .data⟩ (by simp) rfl (by decide) (by decide) (by decide) (by decide) (by decide))
            go_simp
            all_goals first | exact ⟨rfl, rfl⟩ | exact rfl | trace_state
          · obtain rfl := Option.some.inj (ho.symm.trans (List.getElem?_toArray.trans rfl))
            have d111 : a.tmps[111]?.getD undef = .pointer (some ⟨fb, fo, none⟩) := (leftAt_get 111 rfl).trans (hpv ⟨6, .data⟩ (by simp) rfl (by decide) (by decide) (by decide) (by decide) (by decide))
            go_simp
            all_goals first | exact ⟨rfl, rfl⟩ | exact rfl | trace_state
          · obtain rfl := Option.some.inj (ho.symm.trans (List.getElem?_toArray.trans rfl))
            have d112 : a.tmps[112]?.getD undef = .pointer (some ⟨fb, fo + 1, none⟩) := (leftAt_get 112 rfl).trans (hpv ⟨7, .data⟩ (by simp) rfl (by decide) (by decide) (by decide) (by decide) (by decide))
            go_simp
            all_goals first | exact ⟨rfl, rfl⟩ | exact rfl | trace_state
          · obtain rfl := Option.some.inj (ho.symm.trans (List.getElem?_toArray.trans rfl))
            have p10 : a.tmps[10]?.getD undef = .pointer (some ⟨zb, 0, none⟩) := hsb.get 10 (by kernel_rfl) rfl
            go_simp
            all_goals first | exact ⟨rfl, rfl⟩ | exact rfl | trace_state
          · obtain rfl := Option.some.inj (ho.symm.trans (List.getElem?_toArray.trans rfl))
            have d115 : a.tmps[115]?.getD undef = .pointer (some ⟨zb, 10, none⟩) := (leftAt_get 115 rfl).trans (hpv ⟨10, .data⟩ (by simp) rfl (by decide) (by decide) (by decide) (by decide) (by decide))
            go_simp
            all_goals first | exact ⟨rfl, rfl⟩ | exact rfl | trace_state
          · obtain rfl := Option.some.inj (ho.symm.trans (List.getElem?_toArray.trans rfl))
            have p7 : a.tmps[7]?.getD undef = .pointer (some ⟨yb, 0, none⟩) := hsb.get 7 (by kernel_rfl) rfl
            go_simp
            all_goals first | exact ⟨rfl, rfl⟩ | exact rfl | trace_state
        case call =>
          intro o2 ho a w1 hsb hS hW hpv
          subst hW
          obtain rfl := Option.some.inj (ho.symm.trans (List.getElem?_toArray.trans rfl))
          have d108 : a.tmps[108]?.getD undef = exV x := (leftAt_get 108 rfl).trans (hpv ⟨3, .data⟩ (by simp) rfl (by decide) (by decide) (by decide) (by decide) (by decide))
          have d113 : a.tmps[113]?.getD undef = .string was := (leftAt_get 113 rfl).trans (hpv ⟨8, .data⟩ (by simp) rfl (by decide) (by decide) (by decide) (by decide) (by decide))
          go_simp
          go_at_call 13
          with_reducible refine HCL.out.mono ?_
          rintro e w5 ⟨hB5, z, rfl, hN5, hC5⟩
          have HD5 := HDD.out.keep (fx_stay ..) hB5
          have HX5 := (hB5.block _ (show zb < w3.drew.heap.size from heap_lt HBX.out)).trans (show w3.drew.heap[zb]? = _ from HBX.out)
          exact ⟨exV z, rfl, ⟨s18_held HD5.bx (cell_kept HF.out HD5.bx.below) HX5, cell_of_row _ _ 10 _ _ _ HD5.y⟩, z, rfl, hC5, HD5, hN5.mono fun b h1 _ => ⟨Nat.lt_of_lt_of_le HDD.out.lt h1, fun e => by have := (own_base HDD.out.own b e).2; omega⟩, HX5⟩
        case bld =>
          intro o2 ho z a w1 hsb hS hP hz hpv
          obtain ⟨y, rfl, -⟩ := hP
          obtain rfl := Option.some.inj (ho.symm.trans (List.getElem?_toArray.trans rfl))
          have d114 : a.tmps[114]?.getD undef = exV y := (leftAt_get 114 rfl).trans hz
          have d116 : a.tmps[116]?.getD undef = .bool od := (leftAt_get 116 rfl).trans (hpv ⟨11, .data⟩ (by simp) rfl (by decide) (by decide) (by decide) (by decide) (by decide))
          have sf := store_float
          go_simp
          all_goals first | exact ⟨rfl, rfl⟩ | exact rfl | trace_state
        case slc =>
          intro o2 ho z a w1 hsb hS hP hz
          obtain ⟨y, rfl, hC5, HD5, hN5, HX5⟩ := hP
          obtain rfl := Option.some.inj (ho.symm.trans (List.getElem?_toArray.trans rfl))
          have d117 : a.tmps[117]?.getD undef = .agg #[.int .i64 y.kind, .string y.op, .int .i64 y.lit.k, .int .i64 y.lit.n, .float .f64 y.lit.f, .string y.lit.s, .string y.table, .string y.name, .bool y.neg, .slice y.A y.args.length y.c, .bool od] := (leftAt_get 117 rfl).trans hz
          have HD6 := HD5.keep (fx_stay ..) (below1 w1 (.cells (ordL (y, od)).toArray 43))
          have HX6 := ((below1 w1 (.cells (ordL (y, od)).toArray 43)).block _ (heap_lt HX5)).trans HX5
          have HR : ∃ s, Value.slice (some ⟨w1.heap.size, 0, none⟩) 1 1 = s ∧ (((w1.alloc (.cells (ordL (y, od)).toArray 43)).cell? ⟨w.heap.size + 1, 7, none⟩ = some (.slice (some ⟨fb, fo, none⟩) 1 fc) ∧ (w1.alloc (.cells (ordL (y, od)).toArray 43)).cell? ⟨fb, fo + 1, none⟩ = some (.string was) ∧ (w1.alloc (.cells (ordL (y, od)).toArray 43)).cell? ⟨zb, 0, none⟩ = some (.int .i64 x.kind) ∧ (w1.alloc (.cells (ordL (y, od)).toArray 43)).cell? ⟨zb, 1, none⟩ = some (.string x.op) ∧ (w1.alloc (.cells (ordL (y, od)).toArray 43)).cell? ⟨zb, 2, none⟩ = some (.int .i64 x.lit.k) ∧ (w1.alloc (.cells (ordL (y, od)).toArray 43)).cell? ⟨zb, 3, none⟩ = some (.int .i64 x.lit.n) ∧ (w1.alloc (.cells (ordL (y, od)).toArray 43)).cell? ⟨zb, 4, none⟩ = some (.float .f64 x.lit.f) ∧ (w1.alloc (.cells (ordL (y, od)).toArray 43)).cell? ⟨zb, 5, none⟩ = some (.string x.lit.s) ∧ (w1.alloc (.cells (ordL (y, od)).toArray 43)).cell? ⟨zb, 6, none⟩ = some (.string x.table) ∧ (w1.alloc (.cells (ordL (y, od)).toArray 43)).cell? ⟨zb, 7, none⟩ = some (.string x.name) ∧ (w1.alloc (.cells (ordL (y, od)).toArray 43)).cell? ⟨zb, 8, none⟩ = some (.bool x.neg) ∧ (w1.alloc (.cells (ordL (y, od)).toArray 43)).cell? ⟨zb, 9, none⟩ = some (.slice x.A x.args.length x.c) ∧ (w1.alloc (.cells (ordL (y, od)).toArray 43)).cell? ⟨zb, 10, none⟩ = some (.bool od)) ∧ (w1.alloc (.cells (ordL (y, od)).toArray 43)).cell? ⟨yb, 10, none⟩ = some (.slice oA j oc)) ∧ ∃ (y' : Ex) (nb : Nat), exV y = exV y' ∧ CallsX was otherN n x y' ∧ (DS w [.cells #[.slice A m c, .slice ia il ik] 25, .cells #[.int .i64 k, .string xtab, .slice ya yn yc, .slice za zn zc, .slice va vn vc, .bool star, .slice xA xq xc, .slice (some ⟨fb, fo, none⟩) 1 fc, .slice hA hq hc, .slice uA uq uc, .slice (some ⟨eb, eo, none⟩) pq pc, .int .i64 lim] 33] yb #[.int .i64 k, .string xtab, .slice ya yn yc, .slice za zn zc, .slice va vn vc, .bool star, .slice B1 xq k1, .slice (some ⟨frb, 0, none⟩) 1 1, .slice B2 hq k2, .slice B3 uq k3, .slice oA j oc, .int .i64 lim] (FX n frb tn B1 y1 B2 y2 B3 y3 (os.map Prod.fst)) (.slice oA j oc) os.length (os.map ordL).flatten (w1.alloc (.cells (ordL (y, od)).toArray 43))) ∧ ExIn (okD yb (.slice oA j oc)) (w1.alloc (.cells (ordL (y, od)).toArray 43)) n y' ∧ (w1.alloc (.cells (ordL (y, od)).toArray 43)).heap[zb]? = some (.cells #[.int .i64 x.kind, .string x.op, .int .i64 x.lit.k, .int .i64 x.lit.n, .float .f64 x.lit.f, .string x.lit.s, .string x.table, .string x.name, .bool x.neg, .slice x.A x.args.length x.c, .bool od] 43) ∧ s = .slice (some ⟨nb, 0, none⟩) 1 1 ∧ (w1.alloc (.cells (ordL (y, od)).toArray 43)).heap[nb]? = some (.cells (ordL (y', od)).toArray 43) := ⟨_, rfl, ⟨s18_held HD6.bx (cell_kept HF.out HD6.bx.below) HX6, cell_of_row _ _ 10 _ _ _ HD6.y⟩, y, w1.heap.size, rfl, hC5, HD6, hN5.keep (below1 w1 _), HX6, rfl, heap_alloc_new w1 _⟩
          refine Oper.wp_mono (K := fun a' w' => a' = a.put (some 118) (.slice (some ⟨w1.heap.size, 0, none⟩) 1 1) ∧ w' = w1.alloc (.cells #[.int .i64 y.kind, .string y.op, .int .i64 y.lit.k, .int .i64 y.lit.n, .float .f64 y.lit.f, .string y.lit.s, .string y.table, .string y.name, .bool y.neg, .slice y.A y.args.length y.c, .bool od] 43)) (fun a' w' h => ?_) ?_
          · obtain ⟨rfl, rfl⟩ := h
            obtain ⟨s, hs, h1, h2⟩ := HR
            exact ⟨s, by rw [← hs], h1, h2⟩
          · clear HR HD5 HD6 HX5 HX6 hN5 hC5
            have sf := store_float
            go_simp
            all_goals first | exact ⟨rfl, rfl⟩ | trace_state
        case app =>
          intro o2 ho z s a w1 hsb hS hP hz hpv
          obtain ⟨y, nb, rfl, hC5, HD5, hN5, HX5, rfl, HRW⟩ := hP
          obtain rfl := Option.some.inj (ho.symm.trans (List.getElem?_toArray.trans rfl))
          refine app_lit 31 43 11 136 orderZ Tryz.underlying31 info43 rfl (by omega) (by omega) w1 (.tmp 106) (.tmp 118) rfl (yb + 1) (.slice oA j oc) os.length (os.map ordL).flatten ((eval_left 106 rfl).trans (hpv ⟨1, .data⟩ (by simp) rfl (by decide) (by decide) (by decide) (by decide) (by decide))) HD5.own nb 1 (ordL (y, od)) rfl rfl ((eval_left 118 rfl).trans hz) HRW (by have := HL.out; omega) (by have := HD5.lt; omega) ?_
          intro v8 w8 hown hgr hv8
          obtain ⟨A8, c8, rfl⟩ := own_slice hown
          have HM := (HD5.re (F' := FX n frb tn B1 y1 B2 y2 B3 y3 (os.map Prod.fst ++ [y])) fun h => ⟨h.fr, h.s1, h.s2, h.s3, fun o ho => (List.mem_append.1 ho).elim (h.os o) fun ho => by rw [List.mem_singleton.1 ho]; exact hN5⟩).app (fx_stay ..) hown hgr hv8
          have HX8 := (hgr.block _ (heap_lt HX5) (fun e => HNB.out e.symm)).trans HX5
          exact ⟨_, rfl, ⟨s18_held HM.bx (cell_kept HF.out HM.bx.below) HX8, cell_of_row _ _ 10 _ _ _ HM.y⟩, y, A8, c8, rfl, hC5, rfl, HM⟩
        case fin =>
          intro z v a w1 hsb hS hP hv hpv
          obtain ⟨y, A8, c8, rfl, hC5, rfl, HM⟩ := hP
          have d119 : a.tmps[119]?.getD undef = .slice A8 (os.length + 1) c8 := (leftAt_get 119 rfl).trans hv
          have d120 : a.tmps[120]?.getD undef = .pointer (some ⟨yb, 10, none⟩) := (leftAt_get 120 rfl).trans (hpv 15 (by decide) (by decide) (by decide) (by decide) (by decide))
          have q10 := cell_of_row _ _ 10 _ _ _ HM.y
          have g10 := frozen_of_row _ _ 10 _ _ HM.y
          have hz8 := HM.lt
          have HM9 := HM.setY (fx_stay ..) 10 (.slice A8 (os.length + 1) c8)
          simp only [List.drop_succ_cons, List.drop_zero]
          refine wpList_plain rfl fun R1 hR1 => ?_
          go_simp
          refine hR1 _ _ ?_
          have gg : ∀ t v, a.tmps[t]?.getD undef = v → a.tmps.getD t undef = v := fun t v h => by rw [Array.getD_eq_getD_getElem?]; exact h
          refine And.intro (a := Exit.normal = Exit.normal) rfl ?_
          exact ⟨⟨hsb.2.1, hsb.1, gg _ _ (hsb.get 2 (by kernel_rfl) rfl), gg _ _ (hsb.get 3 (by kernel_rfl) rfl), gg _ _ (hsb.get 7 (by kernel_rfl) rfl), gg _ _ (hsb.get 8 (by kernel_rfl) rfl)⟩, gg _ _ (hsb.get 99 (by kernel_rfl) rfl), gg _ _ (hsb.get 100 (by kernel_rfl) rfl), gg _ _ (hsb.get 101 (by kernel_rfl) rfl), A8, c8, y, Lib.hid hC5, Lib.hid HM9⟩
      case rest =>
        clear HCL HDD HD3 HBX x0 x1 x2 x3 x4 x5 x6 x7 x8 x9 x10 y10 f1 s0 s1 s2 s3 s4 s5 s6 s7 s8 s9 s10 s11 s12 s13
        rintro e a' w' ⟨rfl, hS, hsl, hln, hix, A8, c8, z, HC5, HM2⟩
        have HP5 := Lib.hid (pair_more HP.out HJ.out (b := (z, od)) ⟨HC5.out, rfl⟩)
        obtain ⟨u, hu, hug⟩ := open142 hS.size
        have p2 := hS.s2; have p3 := hS.s3; have p7 := hS.s7; have p8 := hS.s8
        have hdf := hS.df
        rw [hug _ (by omega)] at p2 p3 p7 p8 hsl hln hix
        obtain ⟨tm, df⟩ := a'
        dsimp only at hu hdf
        subst hu hdf
        clear hS hug
        rw [p2, p3, p7, p8, hsl, hln, hix]
        clear p2 p3 p7 p8 hsl hln hix
        dsimp only [Exit.then, Exit.inBlock]
        go_wp2_with fail
        refine ⟨⟨⟨?_, ?_, ?_, ?_, ?_, ?_⟩, ?_, ?_, j + 1, A8, c8, os ++ [(z, od)], by omega, ?_, Lib.hid (by rw [List.length_append, HL.out]; rfl), HP5, Lib.hid ?_⟩, ?_⟩
        all_goals first | rfl | skip
        · have h := HM2.out
          rw [List.map_append, List.map_append, List.flatten_append, List.length_append]
          rw [HL.out] at h ⊢
          simpa using h
        · show pq - (intOf (.int .i64 _)).toNat < pq - (intOf (.int .i64 _)).toNat
          simp [intOf] <;> omega
    · obtain rfl : j = pq := by omega
      have hjn : ((j : Int) < (j : Int)) = False := eq_false (by omega)
      have HPF := HP.out
      rw [List.take_of_length_le (by have := HON.out; omega)] at HPF
      go_wp2_with fail
      refine HK.out _ _ (HSEG.out oA oc os _ _ ⟨?_, ?_, ?_, ?_, ?_, ?_⟩ HD.out HPF)
      all_goals rfl
end Go.Proofs.YthdmfaepjemopaaGreatDoor
namespace Go.Proofs.YthdmfaepjemopaaGreatDoor
open Go.RowKit

theorem as_any (n : Nat) (hn : 0 < n) (A : Option Addr) (c : Nat) (ia : Option Addr) (il ik : Nat) (ts : List (Tab × List Col)) (x : St) (w : World) (hD : DeepAt w A ts) (hX : StAt w n x) (hS : (∀ y ∈ x.xs, StrX n y) ∧ (∀ y ∈ x.hs, StrX n y) ∧ (∀ y ∈ x.us, StrX n y) ∧ ∀ o ∈ x.ol, StrX n o.1) :
    Calls Tryz.prog 4 #[.agg #[.slice A ts.length c, .slice ia il ik], stV x] w (RetV (.bool true) w) := by
  obtain ⟨s1, s2, s3, s4⟩ := hS
  obtain ⟨k, xtab, ya, yn, yc, za, zn, zc, va, vn, vc, star, xA, xc, xs, fA, fc, fs, hA, hc, hs, uA, uc, us, oA, oc, ol, lim⟩ := x
  dsimp only at s1 s2 s3 s4
  have HSM : ∀ W, Below w.heap.size w W → Calls Tryz.prog 7 #[.agg #[.slice A ts.length c, .slice ia il ik]] W (RetV (.bool (smallR ts)) W) := fun W hB => small_any A c ia il ik ts W (hD.keep hB)
  have HFX : ∀ W, Below w.heap.size w W → Calls Tryz.prog 8 #[.slice xA xs.length xc] W (RetV (.bool (fewR n xs)) W) := fun W hB => few_any n xA xc xs W (hX.xs.keep hB) s1
  have HFH : ∀ W, Below w.heap.size w W → Calls Tryz.prog 8 #[.slice hA hs.length hc] W (RetV (.bool (fewR n hs)) W) := fun W hB => few_any n hA hc hs W (hX.hs.keep hB) s2
  have HFU : ∀ W, Below w.heap.size w W → Calls Tryz.prog 8 #[.slice uA us.length uc] W (RetV (.bool (fewR n us)) W) := fun W hB => few_any n uA uc us W (hX.us.keep hB) s3
  unfold stV
  dsimp only
  have key : ∀ b1 b2 b3 b4, b1 = smallR ts → b2 = fewR n xs → b3 = fewR n hs → b4 = fewR n us → Calls Tryz.prog 4 #[.agg #[.slice A ts.length c, .slice ia il ik], .agg #[.int .i64 k, .string xtab, .slice ya yn yc, .slice za zn zc, .slice va vn vc, .bool star, .slice xA xs.length xc, .slice fA fs.length fc, .slice hA hs.length hc, .slice uA us.length uc, .slice oA ol.length oc, .int .i64 lim]] w (RetV (.bool true) w) := by
    intro b1 b2 b3 b4 e1 e2 e3 e4
    rw [← e1] at HSM
    rw [← e2] at HFX
    rw [← e3] at HFH
    rw [← e4] at HFU
    cases b1 with
    | false => exact as_x0 n ts w A ts.length c ia il ik k xtab ya yn yc za zn zc va vn vc star xA xs.length xc fA fs.length fc hA hs.length hc uA us.length uc oA ol.length oc lim true b2 b3 b4 HSM HFX HFH HFU
    | true =>
      cases b2 with
      | false => exact as_x1 n ts w A ts.length c ia il ik k xtab ya yn yc za zn zc va vn vc star xA xs.length xc fA fs.length fc hA hs.length hc uA us.length uc oA ol.length oc lim true true b3 b4 HSM HFX HFH HFU
      | true =>
        cases b3 with
        | false => exact as_x2 n ts w A ts.length c ia il ik k xtab ya yn yc za zn zc va vn vc star xA xs.length xc fA fs.length fc hA hs.length hc uA us.length uc oA ol.length oc lim true true true b4 HSM HFX HFH HFU
        | true =>
          cases b4 with
          | false => exact as_x3 n ts w A ts.length c ia il ik k xtab ya yn yc za zn zc va vn vc star xA xs.length xc fA fs.length fc hA hs.length hc uA us.length uc oA ol.length oc lim true true true true HSM HFX HFH HFU
          | true =>
            by_cases h5 : fs.length = 1
            · match fs, h5 with
              | [(tn, was)], _ =>
                obtain ⟨fb, fo, rfl⟩ : ∃ fb fo, fA = some ⟨fb, fo, none⟩ := by
                  rcases hX.fs.2 with h0 | ⟨b, off, h1, _⟩
                  · cases h0
                  · exact ⟨b, off, h1⟩
                have hfs : CellsAt w 2 (some ⟨fb, fo, none⟩) [fromL (tn, was)] := hX.fs
                by_cases h6 : ol.length ≤ 12
                · refine as_go n ts w A ts.length c ia il ik k xtab ya yn yc za zn zc va vn vc star xA xs.length xc (some ⟨fb, fo, none⟩) fc hA hs.length hc uA us.length uc oA ol.length oc lim true true true true HSM HFX HFH HFU (eq_false (by omega)) fun a W hS2 hM => ?_
                  have h12 := (small_iff.1 e1.symm).2
                  have hx := few_iff.1 e2.symm
                  have hh := few_iff.1 e3.symm
                  have hu := few_iff.1 e4.symm
                  have hSm : StSmall n (⟨k, xtab, ya, yn, yc, za, zn, zc, va, vn, vc, star, xA, xc, xs, some ⟨fb, fo, none⟩, fc, [(tn, was)], hA, hc, hs, uA, uc, us, oA, oc, ol, lim⟩ : St) := small_st hx hh hu.1 h6
                  have sm : ∀ {z : Ex}, sizeR n z 400 ≤ 400 → SmallX n z := fun h => small_cnt (Nat.le_trans (size_cnt n _ 400 h) h)
                  refine as2 n ts w A ts.length c ia il ik k xtab ya yn yc za zn zc va vn vc star xA xs.length xc fb fo fc hA hs.length hc uA us.length uc oA ol.length oc lim ol a W hS2 hM rfl (CellsAt.keep hM.below hX.ol.1) (fun o ho => ⟨(hX.ol.2 o ho).keep hM.below, s4 o ho⟩) fun hfew a W hS2 hM => ?_
                  refine as3 n ts w A ts.length c ia il ik k xtab ya yn yc za zn zc va vn vc star xA xs.length xc fb fo fc hA hs.length hc uA us.length uc oA ol.length oc lim tn was a W hS2 hM (CellsAt.keep hM.below hfs) fun hw yb frb a W hS hDS => ?_
                  have f1 := (from_two hfs).2
                  refine as7 n ts w A ts.length c ia il ik k xtab ya yn yc za zn zc va vn vc star xA xs.length xc fb fo fc hA hs.length hc uA us.length uc oA ol.length oc lim yb frb tn was xs hs us rfl rfl rfl a W hS hDS (fun W' hB h7 => turn_any n xA xc xs was tn hw (w.heap.size + 1) fb fo fc W' (hX.xs.keep hB) hx.1 (fun z hz => sm (hx.2 z hz)) h7 (cell_kept f1 hB)) (fun W' hB h7 => turn_any n hA hc hs was tn hw (w.heap.size + 1) fb fo fc W' (hX.hs.keep hB) hh.1 (fun z hz => sm (hh.2 z hz)) h7 (cell_kept f1 hB)) (fun W' hB h7 => turn_any n uA uc us was tn hw (w.heap.size + 1) fb fo fc W' (hX.us.keep hB) hu.1 (fun z hz => sm (hu.2 z hz)) h7 (cell_kept f1 hB)) fun B1 k1 y1 B2 k2 y2 B3 k3 y3 a W hS hDS P1 P2 P3 => ?_
                  refine as8 n ts w A ts.length c ia il ik k xtab ya yn yc za zn zc va vn vc star xA xs.length xc fb fo fc hA hs.length hc uA us.length uc oA ol.length oc lim yb frb tn was hw B1 k1 y1 B2 k2 y2 B3 k3 y3 ol rfl h6 a W hS hDS hX.ol.1 (fun o ho => ⟨hX.ol.2 o ho, sm ((few_iff.1 (hfew o ho)).2 o.1 (by simp))⟩) f1 fun pB pk os a W hS hDS P4 => ?_
                  have HSX : ∀ V, Below W.heap.size W V → Calls Tryz.prog 9 #[.agg #[.slice A ts.length c, .slice ia il ik], .agg #[.int .i64 k, .string xtab, .slice ya yn yc, .slice za zn zc, .slice va vn vc, .bool star, .slice xA xs.length xc, .slice (some ⟨fb, fo, none⟩) 1 fc, .slice hA hs.length hc, .slice uA us.length uc, .slice oA ol.length oc, .int .i64 lim]] V (SelectO n V (chooseR n ts (⟨k, xtab, ya, yn, yc, za, zn, zc, va, vn, vc, star, xA, xc, xs, some ⟨fb, fo, none⟩, fc, [(tn, was)], hA, hc, hs, uA, uc, us, oA, oc, ol, lim⟩ : St))) := fun V hB => by
                    have hB2 : Below w.heap.size w V := hDS.bx.below.trans (hB.mono hDS.bx.below.size)
                    exact select_any n hn A c ia il ik ts (⟨k, xtab, ya, yn, yc, za, zn, zc, va, vn, vc, star, xA, xc, xs, some ⟨fb, fo, none⟩, fc, [(tn, was)], hA, hc, hs, uA, uc, us, oA, oc, ol, lim⟩ : St) V (hD.keep hB2) h12 (hX.keep hB2) hSm
                  have HST : CallsSt n was tn (⟨k, xtab, ya, yn, yc, za, zn, zc, va, vn, vc, star, xA, xc, xs, some ⟨fb, fo, none⟩, fc, [(tn, was)], hA, hc, hs, uA, uc, us, oA, oc, ol, lim⟩ : St) ⟨k, xtab, ya, yn, yc, za, zn, zc, va, vn, vc, star, B1, k1, y1, some ⟨frb, 0, none⟩, 1, [(tn, otherN)], B2, k2, y2, B3, k3, y3, pB, pk, os, lim⟩ := ⟨rfl, rfl, rfl, rfl, rfl, P1, P2, P3, P4⟩
                  have hSmY := small_called HST hx hh hu.1 h6
                  obtain ⟨pB', pk', hpe, _, hCO, _, _⟩ := own_cells hDS.own (fun z hz => by obtain ⟨y, _, rfl⟩ := List.mem_map.1 hz; rfl) (by rw [List.length_map])
                  injection hpe with hp1 hp2 hp3
                  subst hp1 hp3
                  have HSY : ∀ V, Below W.heap.size W V → Calls Tryz.prog 9 #[.agg #[.slice A ts.length c, .slice ia il ik], .agg #[.int .i64 k, .string xtab, .slice ya yn yc, .slice za zn zc, .slice va vn vc, .bool star, .slice B1 xs.length k1, .slice (some ⟨frb, 0, none⟩) 1 1, .slice B2 hs.length k2, .slice B3 us.length k3, .slice pB ol.length pk, .int .i64 lim]] V (SelectO n V (chooseR n ts (⟨k, xtab, ya, yn, yc, za, zn, zc, va, vn, vc, star, xA, xc, xs, some ⟨fb, fo, none⟩, fc, [(tn, was)], hA, hc, hs, uA, uc, us, oA, oc, ol, lim⟩ : St))) := fun V hB => by
                    have hB2 : Below w.heap.size w V := hDS.bx.below.trans (hB.mono hDS.bx.below.size)
                    have hYA : StAt V n ⟨k, xtab, ya, yn, yc, za, zn, zc, va, vn, vc, star, B1, k1, y1, some ⟨frb, 0, none⟩, 1, [(tn, otherN)], B2, k2, y2, B3, k3, y3, pB, pk, os, lim⟩ := by
                      have hF := hDS.hold
                      exact ⟨⟨CellsAt.keep hB hF.s1.1.1, fun y hy => ((hF.s1.2 y hy).at_).keep hB⟩, CellsAt.keep hB hF.fr.1, ⟨CellsAt.keep hB hF.s2.1.1, fun y hy => ((hF.s2.2 y hy).at_).keep hB⟩, ⟨CellsAt.keep hB hF.s3.1.1, fun y hy => ((hF.s3.2 y hy).at_).keep hB⟩, CellsAt.keep hB hCO, fun p hp => ((hF.os p.1 (List.mem_map.2 ⟨p, hp, rfl⟩)).at_).keep hB⟩
                    have h := select_any n hn A c ia il ik ts _ V (hD.keep hB2) h12 hYA hSmY
                    rw [choose_called hn hw HST] at h
                    have l1 : y1.length = xs.length := P1.1
                    have l2 : y2.length = hs.length := P2.1
                    have l3 : y3.length = us.length := P3.1
                    have l4 : os.length = ol.length := P4.1
                    unfold stV at h
                    dsimp only at h
                    rw [l1, l2, l3, l4] at h
                    exact h
                  cases hR : chooseR n ts (⟨k, xtab, ya, yn, yc, za, zn, zc, va, vn, vc, star, xA, xc, xs, some ⟨fb, fo, none⟩, fc, [(tn, was)], hA, hc, hs, uA, uc, us, oA, oc, ol, lim⟩ : St) with
                  | error er => exact as9e n ts w A ts.length c ia il ik k xtab ya yn yc za zn zc va vn vc star xA xs.length xc fb fo fc hA hs.length hc uA us.length uc oA ol.length oc lim yb frb B1 k1 B2 k2 B3 k3 pB pk er a W hS hDS.bx hDS.y (fun V hB => by rw [← hR]; exact HSX V hB) (fun V hB => by rw [← hR]; exact HSY V hB)
                  | ok q => exact as9o n ts w A ts.length c ia il ik k xtab ya yn yc za zn zc va vn vc star xA xs.length xc fb fo fc hA hs.length hc uA us.length uc oA ol.length oc lim yb frb B1 k1 B2 k2 B3 k3 pB pk q a W hS hDS.bx hDS.y (fun V hB => by rw [← hR]; exact HSX V hB) (fun V hB => by rw [← hR]; exact HSY V hB)
                · exact as_x5 n ts w A ts.length c ia il ik k xtab ya yn yc za zn zc va vn vc star xA xs.length xc (some ⟨fb, fo, none⟩) fc hA hs.length hc uA us.length uc oA ol.length oc lim true true true true HSM HFX HFH HFU (eq_true (by omega))
            · exact as_x4 n ts w A ts.length c ia il ik k xtab ya yn yc za zn zc va vn vc star xA xs.length xc fA fs.length fc hA hs.length hc uA us.length uc oA ol.length oc lim true true true true HSM HFX HFH HFU h5
  exact key _ _ _ _ rfl rfl rfl rfl
end Go.Proofs.YthdmfaepjemopaaGreatDoor
