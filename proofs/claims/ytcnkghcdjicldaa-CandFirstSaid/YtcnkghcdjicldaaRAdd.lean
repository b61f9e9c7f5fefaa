/- The walk of the document's add. -/
import Derived.Test.YtcnkghcdjicldaaOfL
import Derived.Test.YtcnkghcdjicldaaRReads
import Derived.Deep.RegionHeld3
import Derived.Deep.RegionLaw
namespace Go.Proofs.Ytcnkghcdjicldaa
open Go.RowKit

theorem run_append_none' {P : Program} {w : World} (base : Nat) (t ty e : TypeId) (i : TypeInfo) (size c : Nat) (ht : P.underlying t = some (.slice e)) (hi : P.info? e = some i)
    (v : Value) (n : Nat) (xs : List Value) (hown : w.ownsRow base e size v n xs) :
    (Builtin.append_ #[t, t] ty #[v, .slice none 0 c]).run P w = .ok v w := by
  rcases hown.2 with ⟨rfl, rfl⟩ | ⟨g, cap, cur, rfl, _, _, hnc, _⟩
  · simp [Builtin.append_, run_underlying ht, sizeOf, typeInfo, hi, Builtin.lenOf, Builtin.firstCells]
  · simp [Builtin.append_, run_underlying ht, sizeOf, typeInfo, hi, Builtin.lenOf, Builtin.firstCells, hnc, storeCells]
/-- indexes behind a row of indexes of the call's own -/
theorem defs_app (w : World) (base : Nat) (ty : TypeId) (v : Value) (n : Nat) (xs : List Value) (hown : w.ownsRow base 36 3 v n xs) (A : Option Addr) (c : Nat) (ds : List DefT) (hd : DefsAt w A c ds)
    (hl : n + ds.length ≤ 2000) (hbase : base ≤ w.heap.size) :
    ∃ v' w', (Builtin.append_ #[30, 30] ty #[v, .slice A ds.length c]).run Try.prog w = .ok v' w' ∧ w'.ownsRow base 36 3 v' (n + ds.length) (xs ++ ds.flatMap DefT.cells) ∧ w.grownBy w' v.ownBlock ∧
      (v'.ownBlock = v.ownBlock ∨ v'.ownBlock = some w.heap.size) := by
  obtain ⟨i0, hi0, hz0, hz1, hz2⟩ := info_parts info36
  cases A with
  | none =>
    have h0 : ds = [] := by
      rcases defs_olds hd with h0 | ⟨ad, hA, _⟩
      · exact h0
      · cases hA
    subst h0
    exact ⟨v, w, run_append_none' base 30 ty 36 i0 3 c Try.underlying30 hi0 v n xs hown, by simpa using hown, World.grownBy.refl w _, .inl rfl⟩
  | some ad =>
    have ho : ∀ j u, (ds.flatMap DefT.cells)[j]? = some u → w.cell? (ad.add j) = some u := by
      rcases defs_olds hd with h0 | ⟨ad', hA, _, ho⟩
      · subst h0; intro j v hv; simp at hv
      · cases hA; exact ho
    obtain ⟨v', w', g1, g2, g3, _, g5⟩ := run_append_own_at (P := Try.prog) w base 30 ty 36 i0 (.agg #[.int .i64 0, .slice none 0 0, .bool false]) 3 40 Try.underlying30 hi0 hz0 hz1 hz2 rfl (by omega) v n xs hown ad ds.length c (ds.flatMap DefT.cells) (flat_len ds) ho (flat_one ds) (by unfold maxLen; omega) (by omega) hbase
    exact ⟨v', w', g1, g2, g3, g5⟩
theorem list_defs (w : World) {ops : Array Oper} {rest : List Oper} {o : Oper} {a : Act} {Q : Exit → Act → World → Prop} (hgd : o.guard = none) (s x : Operand)
    (ho : o.op = .call { callee := .builtin .append, args := #[s, x], argTypes := #[30, 30] }) (base : Nat) (v : Value) (n : Nat) (xs : List Value) (hv : a.eval s = v) (hown : w.ownsRow base 36 3 v n xs)
    (A : Option Addr) (c m : Nat) (ds : List DefT) (hx : a.eval x = .slice A m c) (hm : m = ds.length) (hd : DefsAt w A c ds) (hl : n + m ≤ 2000) (hbase : base ≤ w.heap.size)
    (h : ∀ v' w', w'.ownsRow base 36 3 v' (n + m) (xs ++ ds.flatMap DefT.cells) → w.grownBy w' v.ownBlock → (v'.ownBlock = v.ownBlock ∨ v'.ownBlock = some w.heap.size) → wpList Try.prog ops Q rest (a.put o.dst v') w') : wpList Try.prog ops Q (o :: rest) a w := by
  subst hm
  refine wpList_plain hgd fun K hK => ?_
  obtain ⟨v', w', hrun, g2, g3, g4⟩ := defs_app w base o.type v n xs hown A c ds hd hl hbase
  unfold Oper.wp
  simp only [execOp, ho, resolve, invoke, builtin, Sem.run_bind, Sem.run_pure, Result.andThen_ok, List.map_toArray, List.map_cons, List.map_nil, hv, hx, hrun]
  exact hK _ _ (h v' w' g2 g3 g4)
/-- a row of indexes of the call's own, read -/
theorem defs_own {w : World} {base n : Nat} {v : Value} {ds : List DefT} (h : w.ownsRow base 36 3 v n (ds.flatMap DefT.cells)) (hn : n ≤ 2000) : n = ds.length ∧ ∃ A c, v = .slice A ds.length c ∧ CellsAt w 3 A (ds.map DefT.cells) ∧ ds.length ≤ c ∧ c ≤ maxLen := by
  have e : n = ds.length := by
    have := h.1
    rw [flat_len] at this
    omega
  subst e
  refine ⟨rfl, ?_⟩
  rcases h.2 with ⟨rfl, h0⟩ | ⟨g, cap, cur, rfl, hb, hh, hnc, hcm, hs, ht⟩
  · obtain rfl : ds = [] := List.eq_nil_of_length_eq_zero h0
    exact ⟨none, 0, rfl, ⟨by simp, .inl rfl⟩, Nat.le_refl _, by unfold maxLen; omega⟩
  · exact ⟨some ⟨g, 0, none⟩, cap, rfl, cells_of_block hh ht (by unfold maxLen; omega), hnc, hcm⟩
/-- one index in a block of its own -/
theorem DefsAt.one (w : World) (d : DefT) (h : Ints w d.A d.c d.cols) : DefsAt (w.alloc (.cells d.cells.toArray 36)) (some ⟨w.heap.size, 0, none⟩) 1 [d] := by
  refine ⟨cells_of_block (heap_alloc_new w _) ?_ (by unfold maxLen; simp), ?_, by simp, by unfold maxLen; omega⟩
  · simp
  · intro x hx
    obtain rfl := List.mem_singleton.1 hx
    exact h.keep (below1 w _)
/-- an empty row of the call's own -/
theorem own_empty (w : World) : (w.alloc (.cells #[] 36)).ownsRow w.heap.size 36 3 (.slice (some ⟨w.heap.size, 0, none⟩) 0 0) 0 [] :=
  ⟨rfl, .inr ⟨w.heap.size, 0, #[], rfl, Nat.le_refl _, heap_alloc_new w _, Nat.le_refl _, by unfold maxLen; omega, rfl, rfl⟩⟩
/-- which of a list's indexes is that one -/
theorem any_same (ds : List DefT) (tab : Int) (c3 : List Int) (A : Option Addr) (c : Nat) : ds.any (isD tab c3) = ds.any (fun d => sameR d ⟨tab, A, c, c3⟩) := rfl
set_option maxRecDepth 100000 in
set_option maxHeartbeats 4000000 in
theorem radd_any (A cA : Option Addr) (c cc : Nat) (ds : List DefT) (tab : Int) (cols : List Int) (w : World) (hd : DefsAt w A c ds) (hc : Ints w cA cc cols) (hl : ds.length ≤ 800) :
    Calls Try.prog 25 #[.slice A ds.length c, .int .i64 tab, .slice cA cols.length cc] w (RetD (addR (pureD ds) tab cols) w) := by
  obtain ⟨m, hm⟩ : ∃ m, m = ds.length := ⟨_, rfl⟩
  obtain ⟨n, hn⟩ : ∃ n, n = cols.length := ⟨_, rfl⟩
  obtain ⟨c3, hc3⟩ : ∃ c3, c3 = cols.take 3 := ⟨_, rfl⟩
  obtain ⟨q, hq⟩ : ∃ q, q = c3.length := ⟨_, rfl⟩
  have HD := Lib.hid hd
  have HR := Lib.hid (show addR (pureD ds) tab cols = if c3 = [] then pureD ds else if ds.any (isD tab c3) = true then pureD ds else pureD ds ++ [(tab, c3)] by unfold addR; rw [any_pure, ← hc3])
  generalize addR (pureD ds) tab cols = R at HR ⊢
  have HFI := Lib.hid (show ∀ W, Below w.heap.size w W → Calls Try.prog 27 #[.slice cA n cc, .int .i64 3] W (fun e w' => e = .returned (.slice cA q cc) ∧ W = w') from fun W hB => by rw [hq, hc3, hn]; exact first_any cA cc cols 3 W (hc.keep hB) (by omega))
  have HI := Lib.hid (show Ints w cA cc c3 by rw [hc3]; exact hc.front_min 3)
  have HM := Lib.hid hm
  have HQ := Lib.hid hq
  have HCE := Lib.hid hd.1.2
  rw [← hn, ← hm]
  have hl' : m ≤ 800 := by omega
  have HBX := Lib.hid (show BoxD (w.alloc (.cells #[.int .i64 tab, .slice cA q cc, .bool false] 36)) w.heap.size tab cA q cc from heap_alloc_new _ _)
  clear hd hc hn hm hl hq hc3
  by_cases h0 : q = 0
  · have HE := Lib.hid (show R = pureD ds by rw [HR.out, if_pos (List.eq_nil_of_length_eq_zero (by rw [← HQ.out]; exact h0))])
    subst h0
    go_enter Try.func25, Try.ntmps25
    go_wp2_with (first
      | (go_at_call 27; (with_reducible refine (HFI.out _ (Below.refl _ _)).mono ?_); rintro e w2 ⟨rfl, rfl⟩)
      | fail)
    go_ret
    exact ⟨ds, A, c, HE.out.symm, by rw [← HM.out]; rfl, HD.out.keep (below1 w _), below1 w _⟩
  · have hq0 : ((q : Int) == 0) = false := by simpa using h0
    have HNE := Lib.hid (show ¬ c3 = [] from fun h => h0 (by rw [HQ.out, h]; rfl))
    clear h0
    go_enter Try.func25, Try.ntmps25
    go_wp2_with (first
      | (go_at_call 27; (with_reducible refine (HFI.out _ (Below.refl _ _)).mono ?_); rintro e w2 ⟨rfl, rfl⟩)
      | fail)
    go_loopw [8] (fun i wr => ∃ k : Nat, k ≤ m ∧ i = .int .i64 k ∧ Below w.heap.size w wr ∧ BoxD wr w.heap.size tab cA q cc ∧ Hid ((ds.take k).any (isD tab c3) = false)) (fun i _ => m - (intOf i).toNat)
    case atStart => exact ⟨0, Nat.zero_le _, rfl, below1 w _, HBX.out, Lib.hid rfl⟩
    case round =>
      obtain ⟨k, hk, rfl, hB, hx, HA⟩ := hrel
      obtain ⟨wo, rfl⟩ : ∃ wo : World, wo = wr := ⟨_, rfl⟩
      have HB := Lib.hid hB
      have HX := Lib.hid hx
      obtain ⟨x0, x1, x2⟩ := hx.cells
      have hltx := heap_lt hx
      clear hx
      by_cases hlt : k < m
      · rcases HCE.out with h0 | ⟨b, off, rfl, hbl, hcc⟩
        · exfalso; have := HM.out; have h2 : ds = [] := by simpa using h0
          rw [h2] at this; simp at this; omega
        · obtain ⟨d, hd⟩ : ∃ d, ds[k]? = some d := ⟨_, List.getElem?_eq_getElem (by have := HM.out; omega)⟩
          have hdd := (hcc k d.cells (by rw [List.getElem?_map, hd]; rfl)).2
          have HID := Lib.hid (HD.out.2.1 d (List.mem_of_getElem? hd))
          have HTK := Lib.hid (any_take_snoc ds (isD tab c3) k d hd)
          have HHIT := Lib.hid (fun hp => any_hit ds (isD tab c3) k d hd hp)
          obtain ⟨td, Ad, cd, ld⟩ := d
          have k0 := (hB.cell (p := ⟨b, off + k * 3 + 0, none⟩) hbl).trans (hdd 0 _ rfl)
          have k1 := (hB.cell (p := ⟨b, off + k * 3 + 1, none⟩) hbl).trans (hdd 1 _ rfl)
          have k2 := (hB.cell (p := ⟨b, off + k * 3 + 2, none⟩) hbl).trans (hdd 2 _ rfl)
          rw [Nat.add_zero] at k0
          have hbo : b < wo.heap.size := Nat.lt_of_lt_of_le hbl hB.size
          obtain ⟨r, hr⟩ : ∃ r, r = isD tab c3 ⟨td, Ad, cd, ld⟩ := ⟨_, rfl⟩
          have HSM := Lib.hid (show ∀ W, Below wo.heap.size wo W → Calls Try.prog 14 #[.agg #[.int .i64 td, .slice Ad ld.length cd, .bool false], .agg #[.int .i64 tab, .slice cA q cc, .bool false]] W (RetV (.bool r) W) from fun W hW => by
            have h := same_any ⟨td, Ad, cd, ld⟩ ⟨tab, cA, cc, c3⟩ W (((HID.out).keep HB.out).keep hW) ((HI.out.keep HB.out).keep hW)
            rw [hr, HQ.out]
            exact h)
          rw [← hr] at HTK HHIT
          have HSX := Lib.hid (show ∀ wx, Below wo.heap.size wo wx → Below wo.heap.size wo wx ∧ wx.cell? ⟨w.heap.size, 0, none⟩ = some (.int .i64 tab) ∧ wx.cell? ⟨w.heap.size, 1, none⟩ = some (.slice cA q cc) ∧ wx.cell? ⟨w.heap.size, 2, none⟩ = some (.bool false) ∧ wx.cell? ⟨b, off + k * 3, none⟩ = some (.int .i64 td) ∧ wx.cell? ⟨b, off + k * 3 + 1, none⟩ = some (.slice Ad ld.length cd) ∧ wx.cell? ⟨b, off + k * 3 + 2, none⟩ = some (.bool false) ∧ w.heap.size < wx.heap.size ∧ b < wx.heap.size from fun wx h => ⟨h, cell_kept x0 h, cell_kept x1 h, cell_kept x2 h, cell_kept k0 h, cell_kept k1 h, cell_kept k2 h, Nat.lt_of_lt_of_le hltx h.size, Nat.lt_of_lt_of_le hbo h.size⟩)
          have hW0 : Below wo.heap.size wo wo.drew := (Below.refl _ _).drew
          clear hd hdd hcc hB hr
          cases r with
          | true =>
            have HE := Lib.hid (show R = pureD ds by rw [HR.out, if_neg HNE.out, if_pos (HHIT.out rfl)])
            go_wp2_with fail
            go_region_held3 (fun wx => Below wo.heap.size wo wx ∧ wx.cell? ⟨w.heap.size, 0, none⟩ = some (.int .i64 tab) ∧ wx.cell? ⟨w.heap.size, 1, none⟩ = some (.slice cA q cc) ∧ wx.cell? ⟨w.heap.size, 2, none⟩ = some (.bool false) ∧ wx.cell? ⟨b, off + k * 3, none⟩ = some (.int .i64 td) ∧ wx.cell? ⟨b, off + k * 3 + 1, none⟩ = some (.slice Ad ld.length cd) ∧ wx.cell? ⟨b, off + k * 3 + 2, none⟩ = some (.bool false) ∧ w.heap.size < wx.heap.size ∧ b < wx.heap.size)
              (first
                | exact HSX.out _ hW0
                | (with_reducible assumption)
                | exact HSX.out _ hW4
                | fail)
              (first
                | (go_at_call 14; (with_reducible refine (HSM.out _ hW0).mono ?_); rintro e w4 ⟨rfl, hB4⟩; have hW4 := hW0.trans (hB4.mono hW0.size))
                | fail)
            all_goals
              have HW := Lib.hid (HB.out.trans (hW4.mono HB.out.size))
              go_wp2_with fail
              go_ret
              exact ⟨ds, _, c, HE.out.symm, by rw [← HM.out]; rfl, HD.out.keep HW.out, HW.out⟩
          | false =>
            have HA2 := Lib.hid (show (ds.take (k + 1)).any (isD tab c3) = false by rw [HTK.out, HA.out]; rfl)
            go_wp2_with fail
            go_region_held3 (fun wx => Below wo.heap.size wo wx ∧ wx.cell? ⟨w.heap.size, 0, none⟩ = some (.int .i64 tab) ∧ wx.cell? ⟨w.heap.size, 1, none⟩ = some (.slice cA q cc) ∧ wx.cell? ⟨w.heap.size, 2, none⟩ = some (.bool false) ∧ wx.cell? ⟨b, off + k * 3, none⟩ = some (.int .i64 td) ∧ wx.cell? ⟨b, off + k * 3 + 1, none⟩ = some (.slice Ad ld.length cd) ∧ wx.cell? ⟨b, off + k * 3 + 2, none⟩ = some (.bool false) ∧ w.heap.size < wx.heap.size ∧ b < wx.heap.size)
              (first
                | exact HSX.out _ hW0
                | (with_reducible assumption)
                | exact HSX.out _ hW4
                | fail)
              (first
                | (go_at_call 14; (with_reducible refine (HSM.out _ hW0).mono ?_); rintro e w4 ⟨rfl, hB4⟩; have hW4 := hW0.trans (hB4.mono hW0.size))
                | fail)
            all_goals
              have HW := Lib.hid (HB.out.trans (hW4.mono HB.out.size))
              have HX4 := Lib.hid (HX.out.keep hW4)
              go_wp2_with fail
              go_roundw
              case rel => exact ⟨k + 1, by omega, by go_num, HW.out, HX4.out, HA2⟩
              case measure => simp [intOf] <;> omega
      · have HE := Lib.hid (show R = pureD ds ++ [(tab, c3)] by
          rw [HR.out, if_neg HNE.out, if_neg]
          have := HA.out
          rw [List.take_of_length_le (by have := HM.out; omega)] at this
          rw [this]; decide)
        go_wp2_with (first
          | (at_builtin
             refine list_defs _ (by rfl) (.tmp 32) (.tmp 33) (by rfl) wo.heap.size (.slice (some ⟨wo.heap.size, 0, none⟩) 0 0) 0 [] (by rfl) (own_empty wo) A c m ds (by rfl) HM.out (HD.out.keep (HB.out.trans ((below1 wo _).mono HB.out.size))) (by omega) (by simp) ?_
             intro v1 w4 hown1 hg1 hat1
             have hW4 : Below wo.heap.size wo w4 := Below.grown (below1 wo _) hg1 (by simp) (by intro k hk; cases hk; exact Nat.le_refl _)
             have HO1 := Lib.hid hown1
             have HW4 := Lib.hid hW4
             obtain ⟨x0, x1, x2⟩ := (HX.out.keep hW4).cells
             have hltx4 := heap_lt (HX.out.keep hW4)
             clear hown1 hg1 hat1 hW4)
          | (at_builtin
             refine list_defs _ (by rfl) (.tmp 35) (.tmp 37) (by rfl) wo.heap.size v1 (0 + m) ([] ++ ds.flatMap DefT.cells) (by rfl) (own_kept HO1.out (below1 w4 _) (Nat.le_refl _)) (some ⟨w4.heap.size, 0, none⟩) 1 1 [⟨tab, cA, cc, c3⟩] (by rfl) rfl ?_ (by omega) ?_ ?_
             · have h := DefsAt.one w4 ⟨tab, cA, cc, c3⟩ ((HI.out.keep HB.out).keep HW4.out)
               rw [HQ.out]
               exact h
             · have := HW4.out.size; simp; omega
             intro v2 w5 hown2 hg2 hat2
             have HO2 := Lib.hid hown2
             have HW5 := Lib.hid (below_append (HW4.out.trans ((below1 w4 (.cells #[.int .i64 tab, .slice cA q cc, .bool false] 36)).mono HW4.out.size)) (own_kept HO1.out (below1 w4 _) (Nat.le_refl _)) (by have := HW4.out.size; simp; omega) hg2)
             clear hown2 hg2 hat2)
          | fail)
        have hO : w5.ownsRow wo.heap.size 36 3 v2 (0 + m + 1) ((ds ++ [(⟨tab, cA, cc, c3⟩ : DefT)]).flatMap DefT.cells) := by
          rw [List.flatMap_append]
          exact HO2.out
        obtain ⟨hnn, A5, c5, rfl, hC, h1, h2⟩ := defs_own hO (by omega)
        have HF := Lib.hid (And.intro hC (And.intro h1 h2))
        clear hO hnn hC h1 h2
        go_ret
        refine ⟨ds ++ [⟨tab, cA, cc, c3⟩], A5, c5, by rw [HE.out]; simp [pureD], rfl, ⟨HF.out.1, fun x hx => ?_, HF.out.2⟩, HB.out.trans (HW5.out.mono HB.out.size)⟩
        rcases List.mem_append.1 hx with hx | hx
        · exact ((HD.out.2.1 x hx).keep HB.out).keep HW5.out
        · obtain rfl := List.mem_singleton.1 hx; exact (HI.out.keep HB.out).keep HW5.out
end Go.Proofs.Ytcnkghcdjicldaa
