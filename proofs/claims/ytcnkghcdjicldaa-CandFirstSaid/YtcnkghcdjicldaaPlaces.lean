/- The walk of places. -/
import Derived.Test.YtcnkghcdjicldaaBoxes
namespace Go.Proofs.Ytcnkghcdjicldaa
open Go.RowKit

theorem ofP_none {q : Qd} {a : Int} {w w' : World} {e : Ending} (h : OfP q a w e w') (ht : tabR q a = none) : (∃ g c : Int, e = .returned (.tuple #[.int .i64 g, .int .i64 c, .bool false])) ∧ Below w.heap.size w w' := by
  obtain ⟨⟨g, c, ok, rfl, ho⟩, hB⟩ := h
  rcases ofIs_cases ho with ⟨f, h1, _⟩ | ⟨_, rfl⟩
  · rw [ht] at h1; cases h1
  · exact ⟨⟨g, c, rfl⟩, hB⟩
theorem ofP_some {q : Qd} {a : Int} {w w' : World} {e : Ending} {f : Nat} (h : OfP q a w e w') (ht : tabR q a = some f) : e = .returned (.tuple #[.int .i64 f, .int .i64 (colR q f a), .bool true]) ∧ Below w.heap.size w w' := by
  obtain ⟨⟨g, c, ok, rfl, ho⟩, hB⟩ := h
  rcases ofIs_cases ho with ⟨f', h1, rfl, rfl, rfl⟩ | ⟨h1, _⟩
  · rw [ht] at h1; cases h1; exact ⟨rfl, hB⟩
  · rw [ht] at h1; cases h1
/-- are places all a table's? -/
def allIn (q : Qd) (f : Nat) (l : List Int) : Bool := l.all (fun a => decide (tabR q a = some f))
/-- the columns of a table, if all of some places are its -/
def colsR (q : Qd) (f : Nat) (l : List Int) : List Int := l.foldl (fun out a => onceR out (colR q f a)) []
def placesR (q : Qd) (f : Nat) (l : List Int) : List Int := if allIn q f l = true then colsR q f l else []
theorem colsR_le (q : Qd) (f : Nat) (l : List Int) (k : Nat) : (colsR q f (l.take k)).length ≤ k := by
  induction k with
  | zero => simp [colsR]
  | succ k ih =>
    cases h : l[k]? with
    | none =>
      have : l.take (k + 1) = l.take k := by rw [List.take_add_one, h]; simp
      rw [this]; omega
    | some t =>
      have e : colsR q f (l.take (k + 1)) = onceR (colsR q f (l.take k)) (colR q f t) := fold_snoc _ _ _ _ _ h
      rw [e]
      have := onceR_le (colsR q f (l.take k)) (colR q f t)
      omega
theorem all_take_snoc {α : Type} (l : List α) (p : α → Bool) (k : Nat) (t : α) (h : l[k]? = some t) : (l.take (k + 1)).all p = ((l.take k).all p && p t) := by
  rw [List.take_add_one, h]; simp
theorem all_miss {α : Type} (l : List α) (p : α → Bool) (k : Nat) (t : α) (h : l[k]? = some t) (hp : p t = false) : l.all p = false := by
  rw [List.all_eq_false]; exact ⟨t, List.mem_of_getElem? h, by rw [hp]; decide⟩

set_option maxRecDepth 100000 in
set_option maxHeartbeats 4000000 in
theorem places_any (q : Qd) (f : Nat) (A : Option Addr) (c : Nat) (l : List Int) (w : World) (hq : QAt w q) (hl : Ints w A c l) (hb : l.length ≤ 100) :
    Calls Try.prog 23 #[qV q, .int .i64 (f : Int), .slice A l.length c] w (RetO (placesR q f l) w) := by
  obtain ⟨m, hm⟩ : ∃ m, m = l.length := ⟨_, rfl⟩
  have HM := Lib.hid hm
  have H2 := Lib.hid hl.at
  have HOF := Lib.hid (fun (a : Int) (W : World) (hB : Below w.heap.size w W) => of_any q a W (hq.keep hB))
  have HQQ := Lib.hid (show HeldIn w (w.alloc (.cells q.cells 26)) q.cells (.slice none 0 0) [] from ⟨below1 _ _, heap_alloc_new w _, World.ownsRow_nil _ _ _ _⟩)
  have HL := Lib.hid (colsR_le q f l)
  rw [← hm] at hb ⊢
  clear hl hq hm
  obtain ⟨i0, hi0, hz0, hz1, hz2⟩ := info_parts info3
  unfold qV Qd.cells at *
  go_enter Try.func23, Try.ntmps23
  go_wp2_with fail
  go_loopw [7, 15] (fun out i wr => ∃ k : Nat, k ≤ m ∧ i = .int .i64 k ∧ HeldIn w wr q.cells out (colsR q f (l.take k)) ∧ Hid (allIn q f (l.take k) = true)) (fun _ i _ => m - (intOf i).toNat)
  case atStart => exact ⟨0, Nat.zero_le _, rfl, HQQ.out, Lib.hid rfl⟩
  case round =>
    obtain ⟨k, hk, rfl, hin, HA⟩ := hrel
    obtain ⟨wo, rfl⟩ : ∃ wo : World, wo = wr := ⟨_, rfl⟩
    have hlen := HL.out k
    obtain ⟨cur, hcur⟩ : ∃ c, c = colsR q f (l.take k) := ⟨_, rfl⟩
    rw [← hcur] at hin hlen
    have HC := Lib.hid hcur
    have HI := Lib.hid hin
    obtain ⟨A0, c0, hv, -⟩ := ints_own hin.2.2 rfl
    subst hv
    obtain ⟨q0, q1, q2, q3, q4, q5, q6, q7, q8⟩ := box9 _ _ _ _ _ _ _ _ _ _ _ hin.2.1
    clear hin hcur
    by_cases hlt : k < m
    · rcases H2.out with h0 | ⟨b, off, rfl, hbl, hc⟩
      · exfalso; have := HM.out; rw [h0] at this; simp at this; omega
      · obtain ⟨z, hz⟩ : ∃ z, l[k]? = some z := ⟨_, List.getElem?_eq_getElem (by have := HM.out; omega)⟩
        have hcz := (HI.out.1.cell (p := ⟨b, off + k, none⟩) hbl).trans (hc k z hz)
        have HZ := Lib.hid hz
        have HX := Lib.hid (HOF.out z wo HI.out.1)
        clear hz hc
        cases ht : tabR q z with
        | none =>
          have HR := Lib.hid (show placesR q f l = [] by unfold placesR allIn; rw [all_miss l _ k z HZ.out (by rw [ht]; rfl)]; rfl)
          have HT := Lib.hid ht
          clear ht
          go_wp2_with (first
            | (go_at_call 33; (with_reducible refine HX.out.mono ?_); rintro e w2 ho; obtain ⟨⟨g, cc, rfl⟩, hB⟩ := ofP_none ho HT.out; clear ho)
            | fail)
          go_ret
          exact ⟨_, rfl, by rw [HR.out]; exact World.ownsRow_nil _ _ _ _, HI.out.1.trans (hB.mono HI.out.1.size)⟩
        | some f0 =>
          have HT := Lib.hid ht
          clear ht
          by_cases hf : f0 = f
          · subst hf
            have HA2 := Lib.hid (show allIn q f0 (l.take (k + 1)) = true by unfold allIn; rw [all_take_snoc l _ k z HZ.out]; have := HA.out; unfold allIn at this; rw [this, HT.out]; simp)
            obtain ⟨cl, hcl⟩ : ∃ cl, cl = colR q f0 z := ⟨_, rfl⟩
            have HS := Lib.hid (show colsR q f0 (l.take (k + 1)) = onceR cur cl by rw [HC.out, hcl]; exact fold_snoc _ _ _ _ _ HZ.out)
            have HCL := Lib.hid hcl.symm
            have HH := Lib.hid (fun w2 (hB : Below wo.heap.size wo w2) => HI.out.call hB)
            have HINT := Lib.hid (fun w2 (hB : Below wo.heap.size wo w2) => contains_any A0 c0 cur cl w2 (Ints.of_own (HI.out.call hB).2.2 rfl rfl))
            have H47 := Lib.hid (show cur.length + 1 ≤ maxLen ∧ (cur.length + 1) * 8 ≤ 140737488355328 by unfold maxLen; omega)
            clear hcl
            cases h6 : hasZ cur cl with
            | true =>
              rw [h6] at HINT
              have HS2 := Lib.hid (show colsR q f0 (l.take (k + 1)) = cur by rw [HS.out]; unfold onceR; rw [if_pos h6])
              clear h6
              go_wp2_with (first
                | (go_at_call 33; (with_reducible refine HX.out.mono ?_); rintro e w2 ho; obtain ⟨rfl, hB⟩ := ofP_some ho HT.out; rw [HCL.out]; clear ho)
                | (go_at_call 36; (with_reducible refine (HINT.out _ hB).mono ?_); rintro e w3 ⟨rfl, rfl⟩)
                | fail)
              go_roundw
              case rel => exact ⟨k + 1, by omega, by go_num, by rw [HS2.out]; exact HI.out.call hB, HA2⟩
              case measure => simp [intOf] <;> omega
            | false =>
              rw [h6] at HINT
              have HS2 := Lib.hid (show colsR q f0 (l.take (k + 1)) = cur ++ [cl] by rw [HS.out]; unfold onceR; rw [h6]; rfl)
              clear h6
              go_wp2_with (first
                | (go_at_call 33; (with_reducible refine HX.out.mono ?_); rintro e w2 ho; obtain ⟨rfl, hB⟩ := ofP_some ho HT.out; rw [HCL.out]; have HH2 := Lib.hid (HI.out.call hB); clear ho)
                | (go_at_call 36; (with_reducible refine (HINT.out _ hB).mono ?_); rintro e w3 ⟨rfl, rfl⟩)
                | (at_builtin
                   refine list_append _ (by rfl) (.tmp 37) (.tmp 39) 22 (by rfl) (w.heap.size + 1) 3 i0 (.int .i64 0) 8 Try.underlying22 hi0 hz0 hz1 hz2 (by rfl) (.slice A0 cur.length c0) cur.length (intsV cur) (by rfl) (HH2.out.alloc _).2.2
                     (w2.heap.size + 1) _ 1 1 [.int .i64 cl] (by rfl) (Src.new w2 _ _) ?_ ?_ ?_ ?_ ?_
                   · intro u hu; obtain rfl := List.mem_singleton.1 hu; rfl
                   · exact H47.out.1
                   · exact H47.out.2
                   · have := heap_lt HH2.out.2.1; simp; omega
                   intro v1 w4 hown1 hg1 hat1
                   have HH4 := Lib.hid (HH2.out.app hg1 hown1)
                   clear hat1 hg1 hown1)
                | fail)
              go_roundw
              case rel => exact ⟨k + 1, by omega, by go_num, by rw [HS2.out]; exact HH4.out, HA2⟩
              case measure => simp [intOf] <;> omega
          · have HR := Lib.hid (show placesR q f l = [] by unfold placesR allIn; rw [all_miss l _ k z HZ.out (by rw [HT.out]; simpa using hf)]; rfl)
            have hne : ((f0 : Int) != (f : Int)) = true := by simp; omega
            clear hf
            go_wp2_with (first
              | (go_at_call 33; (with_reducible refine HX.out.mono ?_); rintro e w2 ho; obtain ⟨rfl, hB⟩ := ofP_some ho HT.out; clear ho)
              | fail)
            go_ret
            exact ⟨_, rfl, by rw [HR.out]; exact World.ownsRow_nil _ _ _ _, HI.out.1.trans (hB.mono HI.out.1.size)⟩
    · have HE := Lib.hid (show placesR q f l = cur by
        have h := HA.out
        rw [List.take_of_length_le (by have := HM.out; omega)] at h
        unfold placesR
        rw [if_pos h, HC.out, List.take_of_length_le (by have := HM.out; omega)])
      go_wp2_with fail
      go_ret
      exact ⟨_, rfl, by rw [HE.out]; exact owns_base HI.out.2.2 (Nat.le_succ _), HI.out.1⟩
end Go.Proofs.Ytcnkghcdjicldaa
