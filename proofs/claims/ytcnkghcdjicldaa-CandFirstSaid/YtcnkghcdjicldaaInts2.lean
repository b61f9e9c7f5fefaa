/- The walks of the functions that make lists of numbers: Clone, first, once, together, behind. -/
import Derived.Test.YtcnkghcdjicldaaInts
namespace Go.Proofs.Ytcnkghcdjicldaa
open Go.RowKit

/-- behind a slice of the call's own another one's cells: in a region that keeps the text's order -/
theorem list_append {P : Program} (w : World) {ops : Array Oper} {rest : List Oper} {o : Oper} {a : Act} {Q : Exit → Act → World → Prop} (hgd : o.guard = none) (s x : Operand) (t : TypeId)
    (ho : o.op = .call { callee := .builtin .append, args := #[s, x], argTypes := #[t, t] }) (base : Nat) (e : TypeId) (i : TypeInfo) (z : Value) (bytes : Nat) (ht : P.underlying t = some (.slice e)) (hi : P.info? e = some i) (hz : i.zero = some z)
    (hsize : i.size = 1) (hby : i.bytes = bytes) (hzs : z.cells.size = 1) (v : Value) (n : Nat) (xs : List Value) (hv : a.eval s = v) (hown : w.ownsRow base e 1 v n xs)
    (B : Nat) (A : Option Addr) (m c : Nat) (us : List Value) (hx : a.eval x = .slice A m c) (hs : Src w B A m c us) (h1 : ∀ u ∈ us, u.oneCell' = true)
    (h63 : n + m ≤ maxLen) (hbytes : (n + m) * bytes ≤ 140737488355328) (hbase : base ≤ w.heap.size)
    (h : ∀ v' w', w'.ownsRow base e 1 v' (n + m) (xs ++ us) → w.grownBy w' v.ownBlock → (v'.ownBlock = v.ownBlock ∨ v'.ownBlock = some w.heap.size) → wpList P ops Q rest (a.put o.dst v') w') : wpList P ops Q (o :: rest) a w := by
  refine wpList_plain hgd fun K hK => ?_
  obtain ⟨v', w', hrun, g2, g3, g4⟩ := append_run (P := P) w base t o.type e i z bytes ht hi hz hsize hby hzs v n xs hown B A m c us hs h1 h63 hbytes hbase
  unfold Oper.wp
  simp only [execOp, ho, resolve, invoke, builtin, Sem.run_bind, Sem.run_pure, Result.andThen_ok, List.map_toArray, List.map_cons, List.map_nil, hv, hx, hrun]
  exact hK _ _ (h v' w' g2 g3 g4)
theorem own_kept {w w' : World} {base e size n B : Nat} {v : Value} {xs : List Value} (h : w.ownsRow base e size v n xs) (hB : Below B w w') (hw : w.heap.size ≤ B) : w'.ownsRow base e size v n xs := by
  obtain ⟨h1, h2⟩ := h
  refine ⟨h1, h2.imp id fun ⟨g, cap, cur, e1, e2, e3, e4⟩ => ⟨g, cap, cur, e1, e2, ?_, e4⟩⟩
  have hlt : g < w.heap.size := by
    rcases Nat.lt_or_ge g w.heap.size with hl | hge
    · exact hl
    · rw [Array.getElem?_eq_none hge] at e3; cases e3
  exact (hB.block g (by omega)).trans e3
theorem info_parts {P : Program} {e : TypeId} {z : Value} {s b : Nat} (h : (P.info? e).map (fun i => (i.zero, i.size, i.bytes)) = some (some z, s, b)) : ∃ i, P.info? e = some i ∧ i.zero = some z ∧ i.size = s ∧ i.bytes = b := by
  cases hi : P.info? e with
  | none => rw [hi] at h; cases h
  | some i =>
    rw [hi] at h
    simp only [Option.map_some, Option.some.injEq, Prod.mk.injEq] at h
    exact ⟨i, rfl, h.1, h.2.1, h.2.2⟩
theorem info3 : (Try.prog.info? 3).map (fun i => (i.zero, i.size, i.bytes)) = some (some (.int .i64 0), 1, 8) := by kernel_rfl
theorem ints_own {w : World} {v : Value} {base e n : Nat} {us : List Value} (h : w.ownsRow base e 1 v n us) {zs : List Int} (hu : us = intsV zs) : ∃ A c, v = .slice A zs.length c ∧ Ints w A c zs := by
  obtain ⟨A, c, rfl⟩ := owns_slice h
  have hn : n = zs.length := by have := h.1; rw [hu, intsV_length] at this; omega
  subst hn
  exact ⟨A, c, rfl, Ints.of_own h hu rfl⟩
theorem nil_nil (w : World) : (binOp .eql 22 (.slice none 0 0) (.slice none 0 0)).run Try.prog w = .ok (.bool true) w := by kernel_rfl
theorem nil_some (ad : Addr) (n c : Nat) (w : World) : (binOp .eql 22 (.slice (some ad) n c) (.slice none 0 0)).run Try.prog w = .ok (.bool false) w := by rfl
/-- a function answers numbers in a row of its own -/
def RetO (zs : List Int) (w : World) (e : Ending) (w' : World) : Prop := ∃ v, e = .returned v ∧ w'.ownsRow w.heap.size 3 1 v zs.length (intsV zs) ∧ Below w.heap.size w w'
theorem owns_cast {w : World} {base e n m : Nat} {v : Value} {us us' : List Value} (h : w.ownsRow base e 1 v n us) (hu : us = us') (hm : us'.length = m) : w.ownsRow base e 1 v m us' := by
  subst hu
  have : n = m := by have := h.1; omega
  subst this
  exact h
theorem RetO.toI {zs : List Int} {w w' : World} {e : Ending} (h : RetO zs w e w') : RetI zs w e w' := by
  obtain ⟨v, rfl, ho, hB⟩ := h
  obtain ⟨A, c, rfl, hI⟩ := ints_own ho rfl
  exact ⟨A, c, rfl, hI, hB⟩
set_option maxHeartbeats 1000000 in
theorem clone_any (A : Option Addr) (c : Nat) (zs : List Int) (w : World) (h : Ints w A c zs) (hb : zs.length ≤ 1000) : Calls Try.prog 37 #[.slice A zs.length c] w (RetO zs w) := by
  rcases h.1 with ⟨rfl, h2, rfl, h4⟩ | ⟨ad, rfl, h2, h3, h4, h5⟩
  · obtain rfl : zs = [] := by simpa [intsV] using h4
    clear h h2 h4 hb
    have hnil := nil_nil
    go_enter Try.func37, Try.ntmps37
    go_wp2
    go_ret
    exact ⟨_, rfl, World.ownsRow_nil _ _ _ _, Below.refl _ _⟩
  · obtain ⟨n, hn⟩ : ∃ n, n = zs.length := ⟨_, rfl⟩
    have HH := Lib.hid h
    have HN := Lib.hid hn
    rw [← hn] at hb ⊢
    clear h h2 h3 h4 h5 hn
    obtain ⟨i0, hi0, hz0, hz1, hz2⟩ := info_parts info3
    have H47 := Lib.hid (show 0 + n ≤ maxLen ∧ (0 + n) * 8 ≤ 140737488355328 by unfold maxLen; omega)
    have hnil := nil_some
    go_enter Try.func37, Try.ntmps37
    go_wp2_with (first
      | (at_builtin
         refine list_append _ (by rfl) (.tmp 5) (.tmp 6) 22 (by rfl) w.heap.size 3 i0 (.int .i64 0) 8 Try.underlying22 hi0 hz0 hz1 hz2 (by rfl) (.slice (some ⟨w.heap.size, 0, none⟩) 0 0) 0 [] (by rfl) (World.ownsRow_lit w #[] 0 (Nat.le_refl _) (Nat.zero_le _) rfl)
           w.heap.size (some ad) n c (intsV zs) (by rfl) ?_ (intsV_one zs) ?_ ?_ ?_ ?_
         · rw [HN.out]; exact HH.out.1.keep ((Below.refl _ w).alloc (Nat.le_refl _) _)
         · exact H47.out.1
         · exact H47.out.2
         · simp
         intro v1 w1 hown1 hg1 hat1
         have hb1 : Below w.heap.size w w1 := Below.grown ((Below.refl _ w).alloc (Nat.le_refl _) _) hg1 (by simp) (fun k hk => slice_ge (Nat.le_refl _) hk)
         clear hat1 hg1)
      | fail)
    go_ret
    exact ⟨_, rfl, owns_cast hown1 (by simp) (intsV_length zs), hb1⟩
/-- a list with a number behind it, if it isn't there -/
def onceR (a : List Int) (c : Int) : List Int := if hasZ a c = true then a else a ++ [c]
/-- a list with others behind it, each once -/
def behR (a l : List Int) : List Int := l.foldl onceR a
theorem behR_snoc (a l : List Int) (k : Nat) (z : Int) (h : l[k]? = some z) : behR a (l.take (k + 1)) = onceR (behR a (l.take k)) z := by
  rw [take_snocZ l k z h]; unfold behR; rw [List.foldl_append]; rfl
theorem onceR_le (a : List Int) (c : Int) : (onceR a c).length ≤ a.length + 1 := by unfold onceR; split <;> simp
theorem behR_le (a l : List Int) : (behR a l).length ≤ a.length + l.length := by
  induction l generalizing a with
  | nil => simp [behR]
  | cons x l ih =>
    have := ih (onceR a x)
    have h2 := onceR_le a x
    simp only [behR, List.foldl_cons, List.length_cons] at this ⊢
    omega
theorem own_ge {w : World} {B e size n : Nat} {v : Value} {xs : List Value} (h : w.ownsRow B e size v n xs) : ∀ k, v.ownBlock = some k → B ≤ k := fun k hk => (h.lt k hk).1
set_option maxRecDepth 100000 in
set_option maxHeartbeats 2000000 in
theorem behind_any (A1 A2 : Option Addr) (c1 c2 : Nat) (a l : List Int) (w : World) (h1 : Ints w A1 c1 a) (h2 : Ints w A2 c2 l) (hb : a.length ≤ 100) (hb2 : l.length ≤ 100) :
    Calls Try.prog 19 #[.slice A1 a.length c1, .slice A2 l.length c2] w (RetO (behR a l) w) := by
  obtain ⟨m, hm⟩ : ∃ m, m = l.length := ⟨_, rfl⟩
  have HC := Lib.hid (clone_any A1 c1 a w h1 (by omega))
  have HL := Lib.hid (behR_le a)
  have HM := Lib.hid hm
  have H2 := Lib.hid h2.at
  have hba := Lib.hid hb
  rw [← hm] at hb2 ⊢
  clear h1 h2 hm hb
  obtain ⟨i0, hi0, hz0, hz1, hz2⟩ := info_parts info3
  go_enter Try.func19, Try.ntmps19
  go_wp2_with (first
    | (go_at_call 37; (with_reducible refine HC.out.mono ?_); rintro e w2 ⟨v, rfl, ho, hB⟩)
    | fail)
  go_loopw [5, 12] (fun cs i wr => ∃ k : Nat, k ≤ m ∧ i = .int .i64 k ∧ wr.ownsRow w.heap.size 3 1 cs (behR a (l.take k)).length (intsV (behR a (l.take k))) ∧ Below w.heap.size w wr) (fun _ i _ => m - (intOf i).toNat)
  case atStart => exact ⟨0, Nat.zero_le _, rfl, ho, hB⟩
  case round =>
    obtain ⟨k, hk, rfl, hown, hbb⟩ := hrel
    obtain ⟨wo, rfl⟩ : ∃ wo : World, wo = wr := ⟨_, rfl⟩
    clear ho hB
    obtain ⟨A, cc, rfl, hI⟩ := ints_own hown rfl
    have HO := Lib.hid hown
    have HB := Lib.hid hbb
    clear hown hbb
    by_cases hlt : k < m
    · rcases H2.out with h0 | ⟨b, off, rfl, hbl, hc⟩
      · exfalso; have := HM.out; rw [h0] at this; simp at this; omega
      · obtain ⟨z, hz⟩ : ∃ z, l[k]? = some z := ⟨_, List.getElem?_eq_getElem (by have := HM.out; omega)⟩
        have hcz := (HB.out.cell (p := ⟨b, off + k, none⟩) hbl).trans (hc k z hz)
        have HS := Lib.hid (behR_snoc a l k z hz)
        have HX := Lib.hid (contains_any A cc _ z wo hI)
        have hlen : (behR a (l.take k)).length ≤ 200 := by have := HL.out (l.take k); have h5 := hba.out; rw [List.length_take] at this; omega
        generalize behR a (l.take k) = cur at *
        obtain ⟨n, hn⟩ : ∃ n, n = cur.length := ⟨_, rfl⟩
        have HN := Lib.hid hn
        rw [← hn] at HX hlen HO ⊢
        have H47 := Lib.hid (show n + 1 ≤ maxLen ∧ (n + 1) * 8 ≤ 140737488355328 by unfold maxLen; omega)
        clear hz hc hI hn
        by_cases hx : hasZ cur z = true
        · have HS2 := Lib.hid (show behR a (l.take (k + 1)) = cur by rw [HS.out]; unfold onceR; rw [if_pos hx])
          rw [hx] at HX
          clear hx HS
          go_wp2_with (first
            | (go_at_call 36; (with_reducible refine HX.out.mono ?_); rintro e w3 ⟨rfl, rfl⟩)
            | fail)
          go_roundw
          case rel => exact ⟨k + 1, by omega, by go_num, by rw [HS2.out, ← HN.out]; exact HO.out, HB.out⟩
          case measure => simp [intOf]; omega
        · have hx' : hasZ cur z = false := by simpa using hx
          have HS2 := Lib.hid (show behR a (l.take (k + 1)) = cur ++ [z] by rw [HS.out]; unfold onceR; rw [if_neg hx])
          rw [hx'] at HX
          clear hx hx' HS
          go_wp2_with (first
            | (go_at_call 36; (with_reducible refine HX.out.mono ?_); rintro e w3 ⟨rfl, rfl⟩)
            | (at_builtin
               refine list_append _ (by rfl) (.tmp 20) (.tmp 22) 22 (by rfl) w.heap.size 3 i0 (.int .i64 0) 8 Try.underlying22 hi0 hz0 hz1 hz2 (by rfl) (.slice A n cc) n (intsV cur) (by rfl) (HO.out.alloc _)
                 (wo.heap.size + 1) _ 1 1 [.int .i64 z] (by rfl) (Src.new wo _ _) ?_ ?_ ?_ ?_ ?_
               · intro u hu; obtain rfl := List.mem_singleton.1 hu; rfl
               · exact H47.out.1
               · exact H47.out.2
               · have := HB.out.size; simp; omega
               intro v1 w1 hown1 hg1 hat1
               have hb1 : Below w.heap.size w w1 := Below.grown (HB.out.alloc HB.out.size _) hg1 (by have := HB.out.size; simp; omega) (own_ge HO.out)
               clear hat1 hg1)
            | fail)
          go_roundw
          case rel => exact ⟨k + 1, by omega, by go_num, by rw [HS2.out]; exact owns_cast hown1 (by simp [intsV]) (intsV_length _), hb1⟩
          case measure => simp [intOf]; omega
    · have HE := Lib.hid (show behR a (l.take k) = behR a l by rw [List.take_of_length_le (by have := HM.out; omega)])
      go_wp2_with fail
      go_ret
      exact ⟨_, rfl, by rw [← HE.out]; exact HO.out, HB.out⟩
end Go.Proofs.Ytcnkghcdjicldaa
