/- The walk of add, whole. -/
import Derived.Test.YtcnkghcdjicldaaAdd
import Derived.StillTailTactics
import Derived.Deep.CutBlock
import Derived.Deep.CutRange
namespace Go.Proofs.Ytcnkghcdjicldaa
open Go.RowKit

/-- one index more, as a step of a region that draws its order -/
theorem step_def (w : World) {ops : Array Oper} {o : Oper} {a : Act} {K : Act → World → Prop} {Q : Exit → Act → World → Prop} {E : Prop} (hgd : o.guard = none) (s x : Operand)
    (ho : o.op = .call { callee := .builtin .append, args := #[s, x], argTypes := #[30, 30] }) (A : Option Addr) (c m : Nat) (ds : List DefT) (hd : DefsAt w A c ds) (hm : m = ds.length) (hl : m ≤ 1000) (g : Nat) (d : DefT) (hg : ∀ j v, d.cells[j]? = some v → w.cell? ⟨g, j, none⟩ = some v)
    (hs : a.eval s = .slice A m m) (hx : a.eval x = .slice (some ⟨g, 0, none⟩) 1 1)
    (h : ∀ c' w', CellsAt w' 3 (some ⟨w.heap.size, 0, none⟩) ((ds ++ [d]).map DefT.cells) → m + 1 ≤ c' → c' ≤ maxLen → Below w.heap.size w w' → K (a.put o.dst (.slice (some ⟨w.heap.size, 0, none⟩) (m + 1) c')) w') :
    if Region.wanted o (yielded ops a.tmps) = true then Oper.wp Try.prog o a w K Q else E := by
  have hw : Region.wanted o (yielded ops a.tmps) = true := by simp [Region.wanted, hgd]
  rw [if_pos hw]
  subst hm
  obtain ⟨c', w', hrun, g1, g2, g3, g4⟩ := append_def w o.type A c ds hd hl g d hg
  unfold Oper.wp
  simp only [execOp, ho, resolve, invoke, builtin, Sem.run_bind, Sem.run_pure, Result.andThen_ok, List.map_toArray, List.map_cons, List.map_nil, hs, hx, hrun]
  exact h c' w' g1 g2 g3 g4
set_option maxRecDepth 100000 in
set_option maxHeartbeats 4000000 in
theorem add_any (A cA : Option Addr) (c cc : Nat) (ds : List DefT) (tab : Int) (cols : List Int) (w : World) (hd : DefsAt w A c ds) (hc : Ints w cA cc cols) (hl : ds.length ≤ 800) (hlc : cols.length ≤ 200) :
    Calls Try.prog 18 #[.slice A ds.length c, .int .i64 tab, .slice cA cols.length cc] w (RetD (addR (pureD ds) tab cols) w) := by
  obtain ⟨n, hn⟩ : ∃ n, n = cols.length := ⟨_, rfl⟩
  obtain ⟨m, hm⟩ : ∃ m, m = ds.length := ⟨_, rfl⟩
  obtain ⟨c3, hc3⟩ : ∃ c3, c3 = cols.take 3 := ⟨_, rfl⟩
  have hq : c3.length = if n < 3 then n else 3 := by rw [hc3, List.length_take, hn]; split <;> omega
  have hncc : n ≤ cc := by rw [hn]; exact hc.len
  have hccm := hc.2
  unfold maxLen at hccm
  have HD := Lib.hid hd
  have hmc : m ≤ c := by rw [hm]; exact hd.2.2.1
  have HCL := Lib.hid (fun (W : World) (hB : Below w.heap.size w W) => by
    have := clone_any cA cc (cols.take 3) W ((hc.keep hB).front_min 3) (by rw [List.length_take]; omega)
    rwa [← hc3] at this)
  have HR := Lib.hid (show addR (pureD ds) tab cols = if c3 = [] then pureD ds else if ds.any (isD tab c3) = true then pureD ds else pureD ds ++ [(tab, c3)] by unfold addR; rw [any_pure, ← hc3])
  generalize addR (pureD ds) tab cols = R at HR ⊢
  have HM := Lib.hid hm
  rw [← hn, ← hm]
  have hl' : m ≤ 800 := by omega
  clear hd hc hn hlc hc3 hm hl
  go_enter Try.func18, Try.ntmps18
  go_upto_region 1 with (fail)
  go_cut [] from 7 to 28 (fun wc => AddIn w wc tab c3)
  case first =>
    have HCL2 := Lib.hid (show ∀ W, Below w.heap.size w W → Calls Try.prog 37 #[.slice cA (min (n : Int) 3).toNat cc] W (RetO c3 W) from fun W hB => by
      have h := HCL.out W hB
      rwa [show c3.length = (min (n : Int) 3).toNat by rw [hq]; split <;> omega] at h)
    clear hq
    go_wp2_with (first
      | (go_at_call 37; (with_reducible refine (HCL2.out _ ?_).mono ?_); (exact below2 w _ _); rintro e w2 ⟨v3, rfl, ho, hB⟩; obtain ⟨A3, k3, rfl⟩ := owns_slice ho; have HA := Lib.hid (add_in hB ho); have hz := hB.size; simp only [World.size_alloc] at hz; have hq1 : w2.heap[w.heap.size + 1]? = some (.cells #[.slice cA n cc] 22 (0, 0)) := (hB.block _ (by simp)).trans (by have := heap_alloc_new (w.alloc (.cells #[.int .i64 tab] 3)) (.cells #[.slice cA n cc] 22); rwa [World.size_alloc] at this); have g0 := cell_of_row _ _ 0 _ _ _ hq1; have g1 := frozen_of_row _ _ 0 _ _ hq1; clear ho hB hq1)
      | fail)
    go_meet
    exact HA.out
  case rest =>
    obtain ⟨A3, k3, e0, e1, hI, hB, hlt⟩ := hcut
    obtain ⟨w3, rfl⟩ : ∃ w3 : World, w3 = wc := ⟨_, rfl⟩
    have HB := Lib.hid hB
    have HI := Lib.hid hI
    clear HCL hncc hccm
    obtain ⟨q, hqq⟩ : ∃ q, q = c3.length := ⟨_, rfl⟩
    have hq5 : q ≤ 3 := by rw [hqq, hq]; split <;> omega
    have HQ := Lib.hid hqq
    clear hB hI hq
    by_cases h0 : q = 0
    · have HE := Lib.hid (show R = pureD ds by rw [HR.out, if_pos (List.eq_nil_of_length_eq_zero (by rw [← HQ.out]; exact h0))])
      rw [← hqq, h0] at e1
      clear hqq
      go_wp2_with fail
      go_ret
      exact ⟨ds, A, c, HE.out.symm, by rw [← HM.out]; rfl, HD.out.keep HB.out, HB.out⟩
    · have HNE := Lib.hid (show ¬ c3 = [] from fun h => h0 (by rw [HQ.out, h]; rfl))
      have hq0 : ((q : Int) == 0) = false := by simpa using h0
      have HCN := Lib.hid (show Calls Try.prog 38 #[.slice A m c, .func (.func 39) #[] #[.pointer (some ⟨w.heap.size, 0, none⟩), .pointer (some ⟨w.heap.size + 1, 0, none⟩)]] w3 (RetV (.bool (ds.any (isD tab c3))) w3) by
        have h := contains_def (atR ds (isD tab c3)) 39 #[.pointer (some ⟨w.heap.size, 0, none⟩), .pointer (some ⟨w.heap.size + 1, 0, none⟩)] (Go.Proofs.enters_of Try.func39 (by kernel_rfl) rfl) A c (ds.map DefT.cells) w3
          (HD.out.keep HB.out).1 (fun j x hx W2 hB2 => by
            rw [List.getElem?_map] at hx
            obtain ⟨d, hd', rfl⟩ := Option.map_eq_some_iff.1 hx
            rw [atR_some hd']
            exact add_value tab c3 A3 k3 _ _ d W2 (cell_keep e0 hB2) (cell_keep e1 hB2) (HI.out.keep hB2) (((HD.out.2.1 d (List.mem_of_getElem? hd')).keep HB.out).keep hB2))
        rw [List.length_map, range_any, ← HM.out] at h
        exact h)
      rw [← hqq] at e1
      clear hqq h0
      cases ha : ds.any (isD tab c3) with
      | true =>
        rw [ha] at HCN
        have HE := Lib.hid (show R = pureD ds by rw [HR.out, if_neg HNE.out, if_pos ha])
        clear ha
        go_wp2_with (first
          | (go_at_call 38; (with_reducible refine HCN.out.mono ?_); rintro e w4 ⟨rfl, hB4⟩)
          | fail)
        go_ret
        exact ⟨ds, A, c, HE.out.symm, by rw [← HM.out]; rfl, (HD.out.keep HB.out).keep hB4, HB.out.trans (hB4.mono HB.out.size)⟩
      | false =>
        rw [ha] at HCN
        have HE := Lib.hid (show R = pureD ds ++ [(tab, c3)] by rw [HR.out, if_neg HNE.out, ha, if_neg (by decide)])
        clear ha
        go_wp2_with (first
          | (go_at_call 38; (with_reducible refine HCN.out.mono ?_); rintro e w4 ⟨rfl, hB4⟩)
          | fail)
        have f0 := cell_keep e0 hB4
        have f1 := cell_keep e1 hB4
        have HB4 := Lib.hid (HB.out.trans (hB4.mono HB.out.size))
        have HD4 := Lib.hid ((HD.out.keep HB.out).keep hB4)
        have HI4 := Lib.hid (HI.out.keep hB4)
        have hcm := HD.out.2.2.2
        clear hB4 e0 e1
        obtain ⟨w5, hw5⟩ : ∃ w5, w5 = w4.drew := ⟨_, rfl⟩
        have HB5 := Lib.hid (show Below w4.heap.size w4 w5 from hw5 ▸ (Below.refl _ _).drew)
        have k0 := cell_keep f0 HB5.out
        have k1 := cell_keep f1 HB5.out
        rw [hw5] at k0 k1
        go_region_law (first
          | (go_simp; go_at_call 41; (with_reducible refine (clip_any A m c _ hmc hcm).mono ?_); rintro e w6 ⟨rfl, rfl⟩)
          | (refine step_def _ (by rfl) (.tmp 23) (.tmp 27) (by rfl) A c m ds ?_ HM.out (by omega) w4.heap.size ⟨tab, A3, k3, c3⟩ ?_ (by rfl) (by rfl) ?_
             · exact HD4.out.keep (((Below.refl _ _).drew).alloc (Nat.le_refl _) _)
             · intro j v hv
               have hb := heap_alloc_new w4.drew (.cells #[.int .i64 tab, .slice A3 q k3, .bool false] 36)
               exact (cell_of_row _ _ j _ _ _ hb).trans (by rw [HQ.out]; simpa using hv)
             intro c' w6 hC1 hC2 hC3 hC4
             have HC := Lib.hid (And.intro hC1 (And.intro hC2 (And.intro hC3 hC4)))
             clear hC1 hC2 hC3 hC4)
          | fail)
        all_goals
          go_wp2_with fail
          go_ret
          have hBB : Below w4.heap.size w4 w6 := ((((Below.refl _ w4).drew).alloc (Nat.le_refl _) (.cells #[.int .i64 tab, .slice A3 q k3, .bool false] 36)).trans (HC.out.2.2.2.mono (by simp)))
          refine ⟨ds ++ [⟨tab, A3, k3, c3⟩], _, c', by rw [HE.out]; simp [pureD], ?_, HD4.out.more hBB (HI4.out) HC.out.1 (by rw [← HM.out]; exact HC.out.2.1) HC.out.2.2.1, HB4.out.trans (hBB.mono HB4.out.size)⟩
          rw [List.length_append, ← HM.out]
          simp [Act.put]
end Go.Proofs.Ytcnkghcdjicldaa
