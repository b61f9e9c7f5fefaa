/- Sizes: what size and few compute, and what they bound. What is bound is sound: each column stands within the row of all, with its type. A query whose table goes by another name, and whose columns are called by it, is bound to the same. -/
import Derived.Test.YthdmfaepjemopaaGreatDoorQAW
namespace Go.Proofs.YthdmfaepjemopaaGreatDoor
open Go.RowKit

def sumR (g : Ex → Nat → Nat) (m : Nat) : Nat → List Ex → Nat
  | n, [] => n
  | n, y :: l => if m < n then n else sumR g m (n + g y (m - n)) l
def sizeR : Nat → Ex → Nat → Nat
  | 0, _, _ => 1
  | f + 1, x, m => sumR (sizeR f) m (1 + x.name.size + x.table.size + x.op.size) x.args
def StrX : Nat → Ex → Prop
  | 0, _ => True
  | f + 1, x => (x.name.size ≤ 2 ^ 47 ∧ x.table.size ≤ 2 ^ 47 ∧ x.op.size ≤ 2 ^ 47) ∧ ∀ a ∈ x.args, StrX f a
def cntX : Nat → Ex → Nat
  | 0, _ => 1
  | f + 1, x => 1 + (x.args.map (cntX f)).sum
theorem sum_cnt {g : Ex → Nat → Nat} {c : Ex → Nat} {m : Nat} : ∀ {l : List Ex} (n : Nat), (∀ y ∈ l, ∀ k, g y k ≤ k → c y ≤ g y k) → sumR g m n l ≤ m → n + (l.map c).sum ≤ sumR g m n l
  | [], n, _, _ => by simp [sumR]
  | y :: l, n, hg, h => by
    unfold sumR at h ⊢
    by_cases hn : m < n
    · rw [if_pos hn] at h; omega
    · rw [if_neg hn] at h ⊢
      have ih := sum_cnt (n + g y (m - n)) (fun z hz => hg z (by simp [hz])) h
      have := hg y (by simp) (m - n) (by omega)
      rw [List.map_cons, List.sum_cons]
      omega
theorem size_cnt : ∀ (f : Nat) (x : Ex) (m : Nat), sizeR f x m ≤ m → cntX f x ≤ sizeR f x m
  | 0, _, _, _ => by unfold cntX sizeR; omega
  | f + 1, x, m, h => by
    unfold sizeR at h ⊢
    have := sum_cnt (c := cntX f) _ (fun y _ k hk => size_cnt f y k hk) h
    unfold cntX
    omega
theorem sum_le {g : Ex → Nat → Nat} {m K : Nat} : ∀ {l : List Ex} (n : Nat), (∀ y ∈ l, ∀ k, g y k ≤ k + K) → n ≤ m + K → sumR g m n l ≤ m + K
  | [], n, _, h => h
  | y :: l, n, hg, h => by
    unfold sumR
    by_cases hn : m < n
    · rw [if_pos hn]; exact h
    · rw [if_neg hn]
      have := hg y (by simp) (m - n)
      exact sum_le _ (fun z hz => hg z (by simp [hz])) (by omega)
theorem size_le : ∀ {f : Nat} {x : Ex} (m : Nat), StrX f x → sizeR f x m ≤ m + (1 + 3 * 2 ^ 47)
  | 0, _, m, _ => by unfold sizeR; omega
  | f + 1, x, m, h => by
    unfold sizeR
    have := h.1
    exact sum_le _ (fun y hy k => size_le k (h.2 y hy)) (by omega)
theorem cnt_pos (f : Nat) (x : Ex) : 0 < cntX f x := by cases f <;> unfold cntX <;> omega
theorem len_sum {c : Ex → Nat} (hc : ∀ x, 0 < c x) : ∀ l : List Ex, l.length ≤ (l.map c).sum
  | [] => by simp
  | y :: l => by have := len_sum hc l; have := hc y; rw [List.map_cons, List.sum_cons, List.length_cons]; omega
theorem mem_sum {c : Ex → Nat} : ∀ {l : List Ex} {y : Ex}, y ∈ l → c y ≤ (l.map c).sum
  | z :: l, y, h => by
    rw [List.map_cons, List.sum_cons]
    rcases List.mem_cons.1 h with rfl | h
    · omega
    · have := mem_sum (c := c) h; omega
theorem small_cnt : ∀ {f : Nat} {x : Ex}, cntX f x ≤ 400 → SmallX f x
  | 0, _, _ => trivial
  | f + 1, x, h => by
    unfold cntX at h
    have := len_sum (cnt_pos f) x.args
    exact ⟨by omega, fun a ha => small_cnt (by have := mem_sum (c := cntX f) ha; omega)⟩
theorem bind_mem {f : Ex → Except Int Nd} : ∀ {l : List Ex} {ps : List Nd}, bindArgs f l = .ok ps → ∀ q ∈ ps, ∃ y ∈ l, f y = .ok q
  | [], ps, h, q, hq => by unfold bindArgs at h; cases h; cases hq
  | x :: l, ps, h, q, hq => by
    unfold bindArgs at h
    cases hx : f x with
    | error e => rw [hx] at h; cases h
    | ok p =>
      rw [hx] at h
      dsimp only at h
      cases hl : bindArgs f l with
      | error e => rw [hl] at h; cases h
      | ok qs =>
        rw [hl] at h
        cases h
        rcases List.mem_cons.1 hq with rfl | hq
        · exact ⟨x, by simp, hx⟩
        · obtain ⟨y, hy, h1⟩ := bind_mem hl q hq
          exact ⟨y, by simp [hy], h1⟩
theorem bind_two {f : Ex → Except Int Nd} {l : List Ex} {p q : Nd} (h : bindArgs f l = .ok [p, q]) : ∃ x y, l = [x, y] ∧ f x = .ok p ∧ f y = .ok q := by
  have hl := bindArgs_len h
  match l, hl with
  | [x, y], _ =>
    refine ⟨x, y, rfl, ?_⟩
    unfold bindArgs at h
    cases hx : f x with
    | error e => rw [hx] at h; cases h
    | ok p' =>
      rw [hx] at h
      dsimp only at h
      unfold bindArgs at h
      cases hy : f y with
      | error e => rw [hy] at h; cases h
      | ok q' =>
        rw [hy] at h
        unfold bindArgs at h
        cases h
        exact ⟨rfl, rfl⟩
theorem bindR_inv {n : Nat} {rows : List Row} {fo : Bool} {x : Ex} {p : Nd} (h : bindR (n + 1) rows fo x = .ok p) : ¬ (foldK x.kind = true ∧ fo = false) ∧ ((x.kind = 2 ∧ colR rows x = .ok p) ∨ (x.kind = 1 ∧ p = .mk 1 ⟨#[]⟩ x.lit 0 false (clK x.lit.k) []) ∨ (∃ m ps t, x.kind ≠ 2 ∧ x.kind ≠ 1 ∧ arity x.kind = some m ∧ x.args.length = m ∧ bindArgs (bindR n rows (fo && !foldK x.kind)) x.args = .ok ps ∧ typeR x.kind (ps.map Nd.ty) = .ok t ∧ p = .mk x.kind (if x.kind = 7 ∨ x.kind = 8 then x.op else ⟨#[]⟩) zeroV 0 (if x.kind = 9 then x.neg else false) t ps)) := by
  unfold bindR at h
  by_cases h1 : foldK x.kind = true ∧ fo = false
  · rw [if_pos h1] at h; cases h
  · rw [if_neg h1] at h
    refine ⟨h1, ?_⟩
    cases ha : arity x.kind with
    | none => rw [ha] at h; cases h
    | some m =>
      rw [ha] at h
      dsimp only at h
      by_cases h2 : opOk x.kind x.op = false
      · rw [if_pos h2] at h; cases h
      · rw [if_neg h2] at h
        by_cases h3 : x.kind = 2
        · rw [if_pos h3] at h
          exact Or.inl ⟨h3, h⟩
        · rw [if_neg h3] at h
          by_cases h4 : x.kind = 1
          · rw [if_pos h4] at h
            cases h
            exact Or.inr (Or.inl ⟨h4, rfl⟩)
          · rw [if_neg h4] at h
            by_cases h5 : x.args.length ≠ m
            · rw [if_pos h5] at h; cases h
            · rw [if_neg h5] at h
              cases hb : bindArgs (bindR n rows (fo && !foldK x.kind)) x.args with
              | error e => rw [hb] at h; cases h
              | ok ps =>
                rw [hb] at h
                dsimp only at h
                cases ht : typeR x.kind (ps.map Nd.ty) with
                | error e => rw [ht] at h; cases h
                | ok t =>
                  rw [ht] at h
                  cases h
                  exact Or.inr (Or.inr ⟨m, ps, t, h3, h4, rfl, Classical.byContradiction h5, rfl, ht, rfl⟩)
theorem colR_inv {rows : List Row} {x : Ex} {p : Nd} (h : colR rows x = .ok p) : ∃ q, p = .mk 2 ⟨#[]⟩ zeroV q.1 false q.2 [] ∧ ∃ r ∈ rows, hitR x.table x.name r = some q := by
  unfold colR at h
  split at h
  · rename_i q hq
    cases h
    refine ⟨q, rfl, ?_⟩
    have : q ∈ rows.filterMap (hitR x.table x.name) := by rw [hq]; simp
    exact List.mem_filterMap.1 this
  · cases h
theorem parts_cnt : ∀ {n : Nat} {rows : List Row} {fo : Bool} {x : Ex} {p : Nd}, bindR n rows fo x = .ok p → AndTwo n p ∧ (partsR n p).length ≤ cntX n x
  | 0, _, _, _, _, h => by unfold bindR at h; cases h
  | n + 1, rows, fo, x, p, h => by
    have one : ∀ q : Nd, q.kind ≠ 5 → (partsR (n + 1) q).length ≤ cntX (n + 1) x := fun q hq => by
      unfold partsR
      rw [if_neg hq]
      exact cnt_pos (n + 1) x
    obtain ⟨_, h⟩ := bindR_inv h
    rcases h with ⟨_, h⟩ | ⟨_, rfl⟩ | ⟨m, ps, t, h2, h1, ha, hl, hb, ht, rfl⟩
    · obtain ⟨q, rfl, _⟩ := colR_inv h
      exact ⟨⟨fun h => absurd h (by show ¬ ((2 : Int) = 5); decide), fun a ha => by cases ha⟩, one _ (by show ¬ ((2 : Int) = 5); decide)⟩
    · exact ⟨⟨fun h => absurd h (by show ¬ ((1 : Int) = 5); decide), fun a ha => by cases ha⟩, one _ (by show ¬ ((1 : Int) = 5); decide)⟩
    · have hps := bindArgs_len hb
      have hall : ∀ a ∈ ps, AndTwo n a := fun a ha => by
        obtain ⟨y, _, hy⟩ := bind_mem hb a ha
        exact (parts_cnt hy).1
      by_cases h5 : x.kind = 5
      · have hm : m = 2 := by
          rw [h5] at ha
          have : arity 5 = some 2 := rfl
          rw [this] at ha
          cases ha
          rfl
        refine ⟨⟨fun _ => by show ps.length = 2; omega, hall⟩, ?_⟩
        obtain ⟨a, b, rfl⟩ := ps2 (by omega : ps.length = 2)
        obtain ⟨y, z, hyz, hy, hz⟩ := bind_two hb
        unfold partsR
        rw [if_pos (by exact h5)]
        show (partsR n a ++ partsR n b).length ≤ _
        unfold cntX
        rw [hyz, List.length_append]
        have := (parts_cnt hy).2
        have := (parts_cnt hz).2
        simp
        omega
      · exact ⟨⟨fun h => absurd h h5, hall⟩, one _ h5⟩
theorem small_st {n : Nat} {x : St} (hx : x.xs.length ≤ 30 ∧ ∀ y ∈ x.xs, sizeR n y 400 ≤ 400) (hh : x.hs.length ≤ 30 ∧ ∀ y ∈ x.hs, sizeR n y 400 ≤ 400) (hu : x.us.length ≤ 30) (ho : x.ol.length ≤ 12) : StSmall n x := by
  have hc : ∀ y, sizeR n y 400 ≤ 400 → cntX n y ≤ 400 := fun y h => Nat.le_trans (size_cnt n y 400 h) h
  refine ⟨⟨hx.1, fun y hy => small_cnt (hc y (hx.2 y hy))⟩, ⟨hh.1, fun y hy => small_cnt (hc y (hh.2 y hy)), fun rows y hy p hp => ?_⟩, hu, ho⟩
  have := parts_cnt hp
  have := hc y (hh.2 y hy)
  exact ⟨(parts_cnt hp).1, by omega⟩
end Go.Proofs.YthdmfaepjemopaaGreatDoor
namespace Go.Proofs.YthdmfaepjemopaaGreatDoor
open Go.RowKit

def soundR (T : List Int) : Nat → Nd → Bool
  | 0, _ => false
  | n + 1, p => if p.kind = 2 then decide (0 ≤ p.pos) && decide (p.pos < (T.length : Int)) && (T[p.pos.toNat]? == some p.ty) else p.args.all (soundR T n)
theorem soundR_col {T : List Int} {n : Nat} {p : Nd} (hk : p.kind = 2) : soundR T (n + 1) p = (decide (0 ≤ p.pos) && decide (p.pos < (T.length : Int)) && (T[p.pos.toNat]? == some p.ty)) := by
  conv => lhs; unfold soundR
  rw [if_pos hk]
theorem soundR_all {T : List Int} {n : Nat} {p : Nd} (hk : p.kind ≠ 2) : soundR T (n + 1) p = p.args.all (soundR T n) := by
  conv => lhs; unfold soundR
  rw [if_neg hk]
theorem sound_up {T : List Int} : ∀ {n : Nat} {p : Nd}, soundR T n p = true → soundR T (n + 1) p = true
  | 0, _, h => by unfold soundR at h; cases h
  | n + 1, p, h => by
    unfold soundR at h ⊢
    by_cases hk : p.kind = 2
    · rw [if_pos hk] at h ⊢; exact h
    · rw [if_neg hk, List.all_eq_true] at h ⊢
      exact fun a ha => sound_up (h a ha)
def widR (rows : List Row) : List Int := rows.flatMap fun r => r.cols.map Col.ty
def tyR (ts : List (Tab × List Col)) (tl : List Int) : List Int := tl.flatMap fun k => match ts[k.toNat]? with
  | some t => t.2.map Col.ty
  | none => []
def Fits (T : List Int) (rows : List Row) : Prop := ∀ r ∈ rows, ∀ (c : Nat) (k : Col), r.cols[c]? = some k → 0 ≤ r.beg ∧ T[(r.beg + c).toNat]? = some k.ty
theorem hit_in {T : List Int} {rows : List Row} (hF : Fits T rows) {r : Row} (hr : r ∈ rows) {tn nm : ByteArray} {q : Int × Int} (h : hitR tn nm r = some q) : 0 ≤ q.1 ∧ T[q.1.toNat]? = some q.2 := by
  unfold hitR at h
  cases hc : findN Col.name r.cols nm with
  | none => rw [hc] at h; cases h
  | some c =>
    rw [hc] at h
    dsimp only at h
    split at h
    · cases h
      have hk := List.getElem?_eq_getElem (findN_lt hc)
      have := hF r hr c _ hk
      rw [hk]
      exact ⟨by dsimp only; omega, this.2⟩
    · cases h
theorem lt_of_get {T : List Int} {z t : Int} (h0 : 0 ≤ z) (h : T[z.toNat]? = some t) : z < (T.length : Int) := by
  have := (List.getElem?_eq_some_iff.1 h).1
  omega
theorem col_sound {T : List Int} {rows : List Row} (hF : Fits T rows) {x : Ex} {p : Nd} (h : colR rows x = .ok p) : p.kind = 2 ∧ 0 ≤ p.pos ∧ p.pos < (T.length : Int) ∧ ∀ n, soundR T (n + 1) p = true := by
  obtain ⟨q, rfl, r, hr, hq⟩ := colR_inv h
  have h1 := hit_in hF hr hq
  have h2 := lt_of_get h1.1 h1.2
  refine ⟨rfl, h1.1, h2, fun n => ?_⟩
  refine (soundR_col (by rfl)).trans ?_
  show (decide (0 ≤ q.1) && decide (q.1 < (T.length : Int)) && (T[q.1.toNat]? == some q.2)) = true
  rw [h1.2, decide_eq_true h1.1, decide_eq_true h2]
  simp
theorem bind_sound {T : List Int} {rows : List Row} (hF : Fits T rows) : ∀ {n : Nat} {fo : Bool} {x : Ex} {p : Nd}, bindR n rows fo x = .ok p → soundR T n p = true
  | 0, _, _, _, h => by unfold bindR at h; cases h
  | n + 1, fo, x, p, h => by
    obtain ⟨_, h⟩ := bindR_inv h
    rcases h with ⟨_, h⟩ | ⟨_, rfl⟩ | ⟨m, ps, t, h2, h1, ha, hl, hb, ht, rfl⟩
    · exact (col_sound hF h).2.2.2 n
    · rfl
    · refine (soundR_all (p := .mk x.kind _ zeroV 0 _ t ps) h2).trans ?_
      rw [List.all_eq_true]
      intro a ha
      obtain ⟨y, _, hy⟩ := bind_mem hb a ha
      exact bind_sound hF hy
theorem like_bool {t : Int} (h : likeT t [4] = true) : t = 4 ∨ t = 0 := by
  unfold likeT at h
  simp at h
  omega
theorem type_and {k a b t : Int} (hk : k = 5) (h : typeR k [a, b] = .ok t) : likeT a [4] = true ∧ likeT b [4] = true := by
  subst hk
  have h : (if likeT a [4] && likeT b [4] then Except.ok 4 else Except.error (70 : Int)) = Except.ok t := h
  cases ha : likeT a [4] <;> cases hb : likeT b [4] <;> rw [ha, hb] at h <;> first | (cases h; done) | exact ⟨rfl, rfl⟩
theorem hold_sound {T : List Int} {rows : List Row} (hF : Fits T rows) : ∀ {n : Nat} {fo : Bool} {x : Ex} {p : Nd}, bindR n rows fo x = .ok p → likeT p.ty [4] = true → ∀ q ∈ partsR n p, soundR T n q = true ∧ q.kind ≠ 5 ∧ (q.ty = 4 ∨ q.ty = 0)
  | 0, _, _, _, h, _, _, _ => by unfold bindR at h; cases h
  | n + 1, fo, x, p, h, hl, q, hq => by
    have hs := bind_sound hF h
    unfold partsR at hq
    by_cases hk : p.kind = 5
    · obtain ⟨_, h⟩ := bindR_inv h
      rcases h with ⟨_, h⟩ | ⟨_, rfl⟩ | ⟨m, ps, t, h2, h1, ha, hln, hb, ht, rfl⟩
      · rw [(col_sound hF h).1] at hk; exact absurd hk (by decide)
      · exact absurd hk (by show ¬ ((1 : Int) = 5); decide)
      · have hk : x.kind = 5 := hk
        have hm : m = 2 := by
          rw [hk] at ha
          have : arity 5 = some 2 := rfl
          rw [this] at ha
          cases ha
          rfl
        obtain ⟨a, b, rfl⟩ := ps2 (show ps.length = 2 by rw [bindArgs_len hb]; omega)
        obtain ⟨y, z, _, hy, hz⟩ := bind_two hb
        have hab := type_and hk ht
        rw [if_pos (show (Nd.mk _ _ _ _ _ _ _).kind = 5 from hk)] at hq
        have hq : q ∈ partsR n a ++ partsR n b := hq
        rcases List.mem_append.1 hq with hq | hq
        · have := hold_sound hF hy hab.1 q hq
          exact ⟨sound_up this.1, this.2⟩
        · have := hold_sound hF hz hab.2 q hq
          exact ⟨sound_up this.1, this.2⟩
    · rw [if_neg hk] at hq
      obtain rfl : q = p := by simpa using hq
      exact ⟨hs, hk, like_bool hl⟩
theorem cat_mem {f : Ex → Except Int (List Nd)} {P : Nd → Prop} : ∀ {l : List Ex} {ps : List Nd}, catR f l = .ok ps → (∀ y ∈ l, ∀ qs, f y = .ok qs → ∀ q ∈ qs, P q) → ∀ q ∈ ps, P q
  | [], ps, h, _, q, hq => by unfold catR at h; cases h; cases hq
  | x :: l, ps, h, hP, q, hq => by
    unfold catR at h
    cases hx : f x with
    | error e => rw [hx] at h; cases h
    | ok p =>
      rw [hx] at h
      dsimp only at h
      cases hl : catR f l with
      | error e => rw [hl] at h; cases h
      | ok qs =>
        rw [hl] at h
        cases h
        rcases List.mem_append.1 hq with hq | hq
        · exact hP x (by simp) p hx q hq
        · exact cat_mem hl (fun y hy => hP y (by simp [hy])) q hq
theorem each_mem {α β : Type} {f : α → Except Int β} : ∀ {l : List α} {ps : List β}, eachR f l = .ok ps → ps.length = l.length ∧ ∀ q ∈ ps, ∃ y ∈ l, f y = .ok q
  | [], ps, h => by unfold eachR at h; cases h; exact ⟨rfl, fun q hq => by cases hq⟩
  | x :: l, ps, h => by
    unfold eachR at h
    cases hx : f x with
    | error e => rw [hx] at h; cases h
    | ok p =>
      rw [hx] at h
      dsimp only at h
      cases hl : eachR f l with
      | error e => rw [hl] at h; cases h
      | ok qs =>
        rw [hl] at h
        cases h
        have ih := each_mem hl
        refine ⟨by rw [List.length_cons, List.length_cons, ih.1], fun q hq => ?_⟩
        rcases List.mem_cons.1 hq with rfl | hq
        · exact ⟨x, by simp, hx⟩
        · obtain ⟨y, hy, h1⟩ := ih.2 q hq
          exact ⟨y, by simp [hy], h1⟩
theorem arity_low {k : Int} {m : Nat} (h : arity k = some m) (hf : foldK k = false) : k < 10 := by
  unfold foldK at hf
  simp at hf
  apply Classical.byContradiction
  intro hk
  have := hf (by omega)
  unfold arity at h
  rw [if_neg (by omega), if_neg (by omega), if_neg (by omega)] at h
  cases h
theorem bind_kind {n : Nat} {rows : List Row} {fo : Bool} {x : Ex} {p : Nd} (h : bindR n rows fo x = .ok p) (hf : foldK x.kind = false) : p.kind < 10 := by
  cases n with
  | zero => unfold bindR at h; cases h
  | succ n =>
    obtain ⟨_, h⟩ := bindR_inv h
    rcases h with ⟨_, h⟩ | ⟨_, rfl⟩ | ⟨m, ps, t, h2, h1, ha, hl, hb, ht, rfl⟩
    · obtain ⟨q, rfl, _⟩ := colR_inv h
      show (2 : Int) < 10; decide
    · show (1 : Int) < 10; decide
    · exact arity_low ha hf
structure FromI (ts : List (Tab × List Col)) (m : Nat) (st : List Row × List Int × Int) : Prop where
  rows : st.1.length = m
  tabs : st.2.1.length = m
  wid : st.2.2 = ((widR st.1).length : Int)
  fits : Fits (widR st.1) st.1
  ty : tyR ts st.2.1 = widR st.1
  lim : ∀ k ∈ st.2.1, 0 ≤ k ∧ k.toNat < ts.length
  sub : ∀ r ∈ st.1, ∃ t ∈ ts, r.cols = t.2
theorem FromI.step {ts : List (Tab × List Col)} {m : Nat} {st st' : List Row × List Int × Int} {f : ByteArray × ByteArray} (h : FromI ts m st) (hf : fromR ts st f = .ok st') : FromI ts (m + 1) st' := by
  unfold fromR at hf
  cases hk : findN (fun p : Tab × List Col => p.1.name) ts f.1 with
  | none => rw [hk] at hf; cases hf
  | some k =>
    rw [hk] at hf
    dsimp only at hf
    split at hf
    · cases hf
    · cases ht : ts[k]? with
      | none => rw [ht] at hf; cases hf
      | some t =>
        rw [ht] at hf
        cases hf
        have e1 : widR (st.1 ++ [⟨f.2, t.1, t.2, st.2.2⟩]) = widR st.1 ++ t.2.map Col.ty := by unfold widR; rw [List.flatMap_append]; simp
        refine ⟨by simp [h.rows], by simp [h.tabs], ?_, ?_, ?_, ?_, ?_⟩
        · show st.2.2 + _ = ((widR (st.1 ++ [⟨f.2, t.1, t.2, st.2.2⟩])).length : Int)
          rw [e1, h.wid, List.length_append, List.length_map]
          omega
        · show Fits (widR (st.1 ++ [⟨f.2, t.1, t.2, st.2.2⟩])) (st.1 ++ [⟨f.2, t.1, t.2, st.2.2⟩])
          rw [e1]
          intro r hr c k hc
          rcases List.mem_append.1 hr with hr | hr
          · have := h.fits r hr c k hc
            refine ⟨this.1, ?_⟩
            rw [List.getElem?_append_left (List.getElem?_eq_some_iff.1 this.2).1]
            exact this.2
          · obtain rfl : r = ⟨f.2, t.1, t.2, st.2.2⟩ := by simpa using hr
            dsimp only at hc ⊢
            rw [h.wid]
            refine ⟨by omega, ?_⟩
            rw [List.getElem?_append_right (by omega), show (((widR st.1).length : Int) + (c : Int)).toNat - (widR st.1).length = c by omega, List.getElem?_map, hc]
            rfl
        · show tyR ts (st.2.1 ++ [(k : Int)]) = widR (st.1 ++ [⟨f.2, t.1, t.2, st.2.2⟩])
          rw [e1, ← h.ty]
          unfold tyR
          rw [List.flatMap_append]
          simp [ht]
        · intro z hz
          rcases List.mem_append.1 hz with hz | hz
          · exact h.lim z hz
          · obtain rfl : z = (k : Int) := by simpa using hz
            have := (List.getElem?_eq_some_iff.1 ht).1
            exact ⟨by omega, by omega⟩
        · intro r hr
          rcases List.mem_append.1 hr with hr | hr
          · exact h.sub r hr
          · obtain rfl : r = ⟨f.2, t.1, t.2, st.2.2⟩ := by simpa using hr
            exact ⟨t, List.mem_of_getElem? ht, rfl⟩
theorem FromI.all {ts : List (Tab × List Col)} : ∀ {l : List (ByteArray × ByteArray)} {m : Nat} {st st' : List Row × List Int × Int}, FromI ts m st → foldE (fromR ts) st l = .ok st' → FromI ts (m + l.length) st'
  | [], _, _, _, h, hf => by unfold foldE at hf; cases hf; exact h
  | x :: l, m, st, st', h, hf => by
    unfold foldE at hf
    cases hx : fromR ts st x with
    | error e => rw [hx] at hf; cases hf
    | ok s =>
      rw [hx] at hf
      have := FromI.all (h.step hx) hf
      rw [show m + (x :: l).length = m + 1 + l.length by rw [List.length_cons]; omega]
      exact this
structure SoundQ (ts : List (Tab × List Col)) (n : Nat) (x : St) (q : Qy) : Prop where
  wid : ((tyR ts q.tabs).length : Int) = q.width
  tabs : q.tabs.length = x.fs.length
  begs : q.begs.length = x.fs.length
  four : x.fs.length ≤ 4
  lim : ∀ k ∈ q.tabs, 0 ≤ k ∧ k.toNat < ts.length
  wh : ∀ p ∈ q.wh, soundR (tyR ts q.tabs) n p = true ∧ p.kind ≠ 5 ∧ (p.ty = 4 ∨ p.ty = 0)
  items : ∀ p ∈ q.items, soundR (tyR ts q.tabs) n p = true ∧ (q.gr = true ∨ p.kind < 10)
  ord : ∀ o ∈ q.ord, 0 ≤ o.1 ∧ o.1 < q.width
  star : x.star = true ∨ q.items.length = x.xs.length
theorem star_sound {T : List Int} {rows : List Row} (hF : Fits T rows) {n : Nat} (hn : 0 < n) : ∀ p ∈ starR rows, soundR T n p = true ∧ p.kind < 10 := by
  intro p hp
  unfold starR at hp
  obtain ⟨r, hr, hp⟩ := List.mem_flatMap.1 hp
  obtain ⟨c, hc, rfl⟩ := List.mem_mapIdx.1 hp
  have h1 := hF r hr c _ (List.getElem?_eq_getElem hc)
  refine ⟨?_, by show (2 : Int) < 10; decide⟩
  obtain ⟨m, rfl⟩ : ∃ m, n = m + 1 := ⟨n - 1, by omega⟩
  refine (soundR_col (by rfl)).trans ?_
  show (decide (0 ≤ r.beg + (c : Int)) && decide (r.beg + (c : Int) < (T.length : Int)) && (T[(r.beg + (c : Int)).toNat]? == some (r.cols[c]).ty)) = true
  rw [h1.2, decide_eq_true (by omega), decide_eq_true (lt_of_get (by omega) h1.2)]
  simp
theorem ord_in {T : List Int} {rows : List Row} (hF : Fits T rows) {gr : Bool} {gl : List Int} {p : Ex × Bool} {o : Int × Bool} (h : ordR rows gr gl p = .ok o) : 0 ≤ o.1 ∧ o.1 < (T.length : Int) := by
  unfold ordR at h
  split at h
  · cases hc : colR rows p.1 with
    | error e => rw [hc] at h; cases h
    | ok x =>
      rw [hc] at h
      dsimp only at h
      split at h
      · cases h
        have := col_sound hF hc
        exact ⟨this.2.1, this.2.2.1⟩
      · cases h
  · cases h
theorem item_sound {T : List Int} {rows : List Row} (hF : Fits T rows) {n : Nat} {gr : Bool} {gl : List Int} {x : Ex} {p : Nd} (h : itemR n rows gr gl x = .ok p) : soundR T n p = true ∧ (foldK x.kind = false → p.kind < 10) := by
  unfold itemR at h
  cases hb : bindR n rows (foldK x.kind) x with
  | error e => rw [hb] at h; cases h
  | ok q =>
    rw [hb] at h
    dsimp only at h
    split at h
    · cases h
      exact ⟨bind_sound hF hb, bind_kind hb⟩
    · cases h
theorem choose_sound {n : Nat} (hn : 0 < n) {ts : List (Tab × List Col)} {x : St} {q : Qy} (h : chooseR n ts x = .ok q) : SoundQ ts n x q := by
  unfold chooseR at h
  split at h
  · cases h
  · split at h
    · cases h
    · rename_i h4
      cases hfr : foldE (fromR ts) ([], [], 0) x.fs with
      | error e => rw [hfr] at h; cases h
      | ok st =>
        rw [hfr] at h
        obtain ⟨rows, tl, wd⟩ := st
        dsimp only at h
        have hI : FromI ts (0 + x.fs.length) (rows, tl, wd) := FromI.all ⟨rfl, rfl, rfl, fun r hr => (by cases hr), rfl, fun k hk => (by cases hk), fun r hr => (by cases hr)⟩ hfr
        rw [Nat.zero_add] at hI
        have hF : Fits (tyR ts tl) rows := by rw [show tyR ts tl = widR rows from hI.ty]; exact hI.fits
        have hw : ((tyR ts tl).length : Int) = wd := by rw [show tyR ts tl = widR rows from hI.ty]; exact hI.wid.symm
        unfold midR at h
        cases hh : catR (holdR n rows false) x.hs with
        | error e => rw [hh] at h; cases h
        | ok wh =>
          rw [hh] at h
          dsimp only at h
          cases hg : eachR (grpR rows) x.us with
          | error e => rw [hg] at h; cases h
          | ok gl =>
            rw [hg] at h
            dsimp only at h
            unfold restR at h
            split at h
            · cases h
            · cases hi : eachR (itemR n rows (grR gl x.xs) gl) x.xs with
              | error e => rw [hi] at h; cases h
              | ok il =>
                rw [hi] at h
                dsimp only at h
                cases ho : eachR (ordR rows (grR gl x.xs) gl) x.ol with
                | error e => rw [ho] at h; cases h
                | ok os =>
                  rw [ho] at h
                  cases h
                  have hil := each_mem hi
                  refine ⟨hw, hI.tabs, ?_, by omega, hI.lim, ?_, ?_, ?_, ?_⟩
                  · show (rows.map Row.beg).length = _
                    rw [List.length_map]
                    exact hI.rows
                  · refine cat_mem hh fun y hy qs hqs => ?_
                    unfold holdR at hqs
                    cases hb : bindR n rows false y with
                    | error e => rw [hb] at hqs; cases hqs
                    | ok p =>
                      rw [hb] at hqs
                      dsimp only at hqs
                      split at hqs
                      · rename_i hl
                        cases hqs
                        exact hold_sound hF hb hl
                      · cases hqs
                  · intro p hp
                    rcases List.mem_append.1 (show p ∈ il ++ (if x.star then starR rows else []) from hp) with hp | hp
                    · obtain ⟨y, hy, h1⟩ := hil.2 p hp
                      have := item_sound hF h1
                      refine ⟨this.1, ?_⟩
                      show grR gl x.xs = true ∨ _
                      cases hgr : grR gl x.xs with
                      | true => exact Or.inl rfl
                      | false =>
                        refine Or.inr (this.2 ?_)
                        unfold grR at hgr
                        rw [Bool.or_eq_false_iff, List.any_eq_false] at hgr
                        have := hgr.2 y hy
                        simpa using this
                    · cases hs : x.star with
                      | true => rw [hs] at hp; exact ⟨(star_sound hF hn p hp).1, Or.inr (star_sound hF hn p hp).2⟩
                      | false => rw [hs] at hp; cases hp
                  · intro o ho'
                    obtain ⟨y, _, h1⟩ := (each_mem ho).2 o ho'
                    have := ord_in hF h1
                    exact ⟨this.1, by rw [← hw]; exact this.2⟩
                  · cases hs : x.star with
                    | true => exact Or.inl rfl
                    | false =>
                      refine Or.inr ?_
                      simp [hil.1]
def DeepX : Nat → Ex → Prop
  | 0, _ => False
  | n + 1, x => ∀ a ∈ x.args, DeepX n a
theorem ExAt.deep {W : World} : ∀ {n : Nat} {x : Ex}, ExAt W n x → DeepX n x
  | 0, _, h => h.elim
  | _ + 1, _, h => fun a ha => (h.2 a ha).deep
theorem typeR_err {k : Int} {l : List Int} {e : Int} (h : typeR k l = .error e) : e = 70 := by
  unfold typeR at h
  split at h <;> (repeat' split at h) <;> cases h <;> rfl
theorem bindArgs_err {f : Ex → Except Int Nd} {e : Int} : ∀ {l : List Ex}, bindArgs f l = .error e → ∃ y ∈ l, f y = .error e
  | [], h => by unfold bindArgs at h; cases h
  | x :: l, h => by
    unfold bindArgs at h
    cases hx : f x with
    | error e' => rw [hx] at h; cases h; exact ⟨x, by simp, hx⟩
    | ok p =>
      rw [hx] at h
      dsimp only at h
      cases hl : bindArgs f l with
      | error e' =>
        rw [hl] at h
        cases h
        obtain ⟨y, hy, h1⟩ := bindArgs_err hl
        exact ⟨y, by simp [hy], h1⟩
      | ok qs => rw [hl] at h; cases h
theorem colR_err {rows : List Row} {x : Ex} {e : Int} (h : colR rows x = .error e) : e = 131 := by
  unfold colR at h
  split at h <;> cases h
  rfl
theorem bindR_err {rows : List Row} {e : Int} : ∀ {n : Nat} {fo : Bool} {x : Ex}, DeepX n x → bindR n rows fo x = .error e → e ≠ 0
  | 0, _, _, hd, _ => hd.elim
  | n + 1, fo, x, hd, h => by
    unfold bindR at h
    split at h
    · cases h; decide
    · split at h
      · cases h; decide
      · split at h
        · cases h; decide
        · split at h
          · rw [colR_err h]; decide
          · split at h
            · cases h
            · split at h
              · cases h; decide
              · cases hb : bindArgs (bindR n rows (fo && !foldK x.kind)) x.args with
                | error e' =>
                  rw [hb] at h
                  cases h
                  obtain ⟨y, hy, h1⟩ := bindArgs_err hb
                  exact bindR_err (hd y hy) h1
                | ok ps =>
                  rw [hb] at h
                  dsimp only at h
                  cases ht : typeR x.kind (ps.map Nd.ty) with
                  | error e' => rw [ht] at h; cases h; rw [typeR_err ht]; decide
                  | ok t => rw [ht] at h; cases h
theorem each_err {α β : Type} {f : α → Except Int β} {e : Int} : ∀ {l : List α}, eachR f l = .error e → ∃ y ∈ l, f y = .error e
  | [], h => by unfold eachR at h; cases h
  | x :: l, h => by
    unfold eachR at h
    cases hx : f x with
    | error e' => rw [hx] at h; cases h; exact ⟨x, by simp, hx⟩
    | ok p =>
      rw [hx] at h
      dsimp only at h
      cases hl : eachR f l with
      | error e' =>
        rw [hl] at h
        cases h
        obtain ⟨y, hy, h1⟩ := each_err hl
        exact ⟨y, by simp [hy], h1⟩
      | ok qs => rw [hl] at h; cases h
theorem cat_err {f : Ex → Except Int (List Nd)} {e : Int} : ∀ {l : List Ex}, catR f l = .error e → ∃ y ∈ l, f y = .error e
  | [], h => by unfold catR at h; cases h
  | x :: l, h => by
    unfold catR at h
    cases hx : f x with
    | error e' => rw [hx] at h; cases h; exact ⟨x, by simp, hx⟩
    | ok p =>
      rw [hx] at h
      dsimp only at h
      cases hl : catR f l with
      | error e' =>
        rw [hl] at h
        cases h
        obtain ⟨y, hy, h1⟩ := cat_err hl
        exact ⟨y, by simp [hy], h1⟩
      | ok qs => rw [hl] at h; cases h
theorem fold_err {ts : List (Tab × List Col)} {e : Int} : ∀ {l : List (ByteArray × ByteArray)} {st : List Row × List Int × Int}, foldE (fromR ts) st l = .error e → e ≠ 0
  | [], _, h => by unfold foldE at h; cases h
  | x :: l, st, h => by
    unfold foldE at h
    cases hx : fromR ts st x with
    | error e' =>
      rw [hx] at h
      cases h
      unfold fromR at hx
      repeat' split at hx
      all_goals cases hx
      all_goals decide
    | ok s => rw [hx] at h; exact fold_err h
theorem choose_err {n : Nat} {ts : List (Tab × List Col)} {x : St} {e : Int} (hx : ∀ y ∈ x.xs, DeepX n y) (hh : ∀ y ∈ x.hs, DeepX n y) (h : chooseR n ts x = .error e) : e ≠ 0 := by
  unfold chooseR at h
  split at h
  · cases h; decide
  · split at h
    · cases h; decide
    · cases hfr : foldE (fromR ts) ([], [], 0) x.fs with
      | error e' => rw [hfr] at h; cases h; exact fold_err hfr
      | ok st =>
        rw [hfr] at h
        obtain ⟨rows, tl, wd⟩ := st
        dsimp only at h
        unfold midR at h
        cases hw : catR (holdR n rows false) x.hs with
        | error e' =>
          rw [hw] at h
          cases h
          obtain ⟨y, hy, h1⟩ := cat_err hw
          unfold holdR at h1
          cases hb : bindR n rows false y with
          | error e' => rw [hb] at h1; cases h1; exact bindR_err (hh y hy) hb
          | ok p =>
            rw [hb] at h1
            dsimp only at h1
            split at h1 <;> cases h1
            decide
        | ok wh =>
          rw [hw] at h
          dsimp only at h
          cases hg : eachR (grpR rows) x.us with
          | error e' =>
            rw [hg] at h
            cases h
            obtain ⟨y, _, h1⟩ := each_err hg
            unfold grpR at h1
            split at h1
            · cases hc : colR rows y with
              | error e' => rw [hc] at h1; cases h1; rw [colR_err hc]; decide
              | ok p => rw [hc] at h1; cases h1
            · cases h1; decide
          | ok gl =>
            rw [hg] at h
            dsimp only at h
            unfold restR at h
            split at h
            · cases h; decide
            · cases hi : eachR (itemR n rows (grR gl x.xs) gl) x.xs with
              | error e' =>
                rw [hi] at h
                cases h
                obtain ⟨y, hy, h1⟩ := each_err hi
                unfold itemR at h1
                cases hb : bindR n rows (foldK y.kind) y with
                | error e' => rw [hb] at h1; cases h1; exact bindR_err (hx y hy) hb
                | ok p =>
                  rw [hb] at h1
                  dsimp only at h1
                  split at h1 <;> cases h1
                  decide
              | ok il =>
                rw [hi] at h
                dsimp only at h
                cases ho : eachR (ordR rows (grR gl x.xs) gl) x.ol with
                | error e' =>
                  rw [ho] at h
                  cases h
                  obtain ⟨y, _, h1⟩ := each_err ho
                  unfold ordR at h1
                  split at h1
                  · cases hc : colR rows y.1 with
                    | error e' => rw [hc] at h1; cases h1; rw [colR_err hc]; decide
                    | ok p =>
                      rw [hc] at h1
                      dsimp only at h1
                      split at h1 <;> cases h1
                      decide
                  · cases h1; decide
                | ok os => rw [ho] at h; cases h
end Go.Proofs.YthdmfaepjemopaaGreatDoor
namespace Go.Proofs.YthdmfaepjemopaaGreatDoor
open Go.RowKit

def turnT (was nm : ByteArray) (k : Int) (t : ByteArray) : ByteArray := if k = 2 ∧ was = ⟨#[]⟩ ∧ (if k = 2 ∧ t = was then nm else if k = 2 ∧ t = nm then ⟨#[63]⟩ else t) = nm then ⟨#[]⟩ else if k = 2 ∧ t = was then nm else if k = 2 ∧ t = nm then ⟨#[63]⟩ else t
def CallsX (was nm : ByteArray) : Nat → Ex → Ex → Prop
  | 0, _, _ => True
  | n + 1, x, y => (y.kind = x.kind ∧ y.op = x.op ∧ y.lit = x.lit ∧ y.name = x.name ∧ y.neg = x.neg ∧ y.table = turnT was nm x.kind x.table) ∧ y.args.length = x.args.length ∧ ∀ (i : Nat) (a b : Ex), x.args[i]? = some a → y.args[i]? = some b → CallsX was nm n a b
def otherN : ByteArray := ⟨#[111, 116, 104, 101, 114]⟩
theorem turn_hit {was : ByteArray} (hw : was ≠ otherN) {k : Int} (hk : k = 2) (t : ByteArray) : (turnT was otherN k t = ⟨#[]⟩ ∨ turnT was otherN k t = otherN) ↔ (t = ⟨#[]⟩ ∨ t = was) := by
  have e1 : (⟨#[63]⟩ : ByteArray) ≠ otherN := by decide
  have e2 : (⟨#[63]⟩ : ByteArray) ≠ ⟨#[]⟩ := by decide
  have e3 : (⟨#[]⟩ : ByteArray) ≠ otherN := by decide
  have e4 : otherN ≠ (⟨#[]⟩ : ByteArray) := by decide
  subst hk
  unfold turnT
  by_cases h1 : t = was
  · subst h1
    by_cases h2 : t = ⟨#[]⟩
    · subst h2; simp
    · simp [h2]
  · by_cases h2 : t = otherN
    · subst h2
      by_cases h3 : was = ⟨#[]⟩
      · subst h3; simp [e1, e2, e4]
      · simp [h1, h3, e1, e2, e4]
    · by_cases h3 : was = ⟨#[]⟩
      · subst h3; simp [h1, h2]
      · simp [h1, h2, h3]
def Pair {α β : Type} (R : α → β → Prop) (l : List α) (l' : List β) : Prop := l'.length = l.length ∧ ∀ (i : Nat) (a : α) (b : β), l[i]? = some a → l'[i]? = some b → R a b
theorem Pair.tail {α β : Type} {R : α → β → Prop} {a : α} {b : β} {l : List α} {l' : List β} (h : Pair R (a :: l) (b :: l')) : R a b ∧ Pair R l l' :=
  ⟨h.2 0 a b rfl rfl, by have := h.1; simpa using this, fun i x y hx hy => h.2 (i + 1) x y (by simpa using hx) (by simpa using hy)⟩
theorem pair_bind {f g : Ex → Except Int Nd} {R : Ex → Ex → Prop} (hR : ∀ a b, R a b → g b = f a) : ∀ {l l' : List Ex}, Pair R l l' → bindArgs g l' = bindArgs f l
  | [], [], _ => rfl
  | [], _ :: _, h => by have := h.1; simp at this
  | _ :: _, [], h => by have := h.1; simp at this
  | a :: l, b :: l', h => by
    unfold bindArgs
    rw [hR a b h.tail.1, pair_bind hR h.tail.2]
theorem pair_each {α β : Type} {f g : α → Except Int β} {R : α → α → Prop} (hR : ∀ a b, R a b → g b = f a) : ∀ {l l' : List α}, Pair R l l' → eachR g l' = eachR f l
  | [], [], _ => rfl
  | [], _ :: _, h => by have := h.1; simp at this
  | _ :: _, [], h => by have := h.1; simp at this
  | a :: l, b :: l', h => by
    unfold eachR
    rw [hR a b h.tail.1, pair_each hR h.tail.2]
theorem pair_cat {f g : Ex → Except Int (List Nd)} {R : Ex → Ex → Prop} (hR : ∀ a b, R a b → g b = f a) : ∀ {l l' : List Ex}, Pair R l l' → catR g l' = catR f l
  | [], [], _ => rfl
  | [], _ :: _, h => by have := h.1; simp at this
  | _ :: _, [], h => by have := h.1; simp at this
  | a :: l, b :: l', h => by
    unfold catR
    rw [hR a b h.tail.1, pair_cat hR h.tail.2]
theorem pair_any {α : Type} {p q : α → Bool} {R : α → α → Prop} (hR : ∀ a b, R a b → q b = p a) : ∀ {l l' : List α}, Pair R l l' → l'.any q = l.any p
  | [], [], _ => rfl
  | [], _ :: _, h => by have := h.1; simp at this
  | _ :: _, [], h => by have := h.1; simp at this
  | a :: l, b :: l', h => by
    rw [List.any_cons, List.any_cons, hR a b h.tail.1, pair_any hR h.tail.2]
theorem pair_sum {c : Ex → Nat} {R : Ex → Ex → Prop} (hR : ∀ a b, R a b → c b = c a) : ∀ {l l' : List Ex}, Pair R l l' → (l'.map c).sum = (l.map c).sum
  | [], [], _ => rfl
  | [], _ :: _, h => by have := h.1; simp at this
  | _ :: _, [], h => by have := h.1; simp at this
  | a :: l, b :: l', h => by
    rw [List.map_cons, List.map_cons, List.sum_cons, List.sum_cons, hR a b h.tail.1, pair_sum hR h.tail.2]
theorem called_cnt {was nm : ByteArray} : ∀ {n : Nat} {x y : Ex}, CallsX was nm n x y → cntX n y = cntX n x
  | 0, _, _, _ => rfl
  | n + 1, x, y, h => by
    unfold cntX
    rw [pair_sum (R := CallsX was nm n) (fun a b hab => called_cnt hab) h.2]
theorem hit_called {was : ByteArray} (hw : was ≠ otherN) {t : Tab} {cs : List Col} {b : Int} {x y : Ex} (hk : x.kind = 2) (h1 : y.name = x.name) (h2 : y.table = turnT was otherN x.kind x.table) : hitR y.table y.name ⟨otherN, t, cs, b⟩ = hitR x.table x.name ⟨was, t, cs, b⟩ := by
  unfold hitR
  rw [h1, h2]
  dsimp only
  cases findN Col.name cs x.name with
  | none => rfl
  | some c =>
    dsimp only
    by_cases h : x.table = ⟨#[]⟩ ∨ x.table = was
    · rw [if_pos h, if_pos ((turn_hit hw hk _).2 h)]
    · rw [if_neg h, if_neg (fun h' => h ((turn_hit hw hk _).1 h'))]
theorem col_called {was : ByteArray} (hw : was ≠ otherN) {t : Tab} {cs : List Col} {b : Int} {x y : Ex} (hk : x.kind = 2) (h1 : y.name = x.name) (h2 : y.table = turnT was otherN x.kind x.table) : colR [⟨otherN, t, cs, b⟩] y = colR [⟨was, t, cs, b⟩] x := by
  unfold colR
  rw [List.filterMap_cons, List.filterMap_cons, hit_called hw hk h1 h2]
  rfl
theorem bind_called {was : ByteArray} (hw : was ≠ otherN) {t : Tab} {cs : List Col} {b : Int} : ∀ {n : Nat} {fo : Bool} {x y : Ex}, CallsX was otherN n x y → bindR n [⟨otherN, t, cs, b⟩] fo y = bindR n [⟨was, t, cs, b⟩] fo x
  | 0, _, _, _, _ => rfl
  | n + 1, fo, x, y, ⟨⟨e1, e2, e3, e4, e5, e6⟩, h⟩ => by
    unfold bindR
    rw [e1, e2, e3, e5, h.1, pair_bind (R := CallsX was otherN n) (f := bindR n [⟨was, t, cs, b⟩] (fo && !foldK x.kind)) (g := bindR n [⟨otherN, t, cs, b⟩] (fo && !foldK x.kind)) (fun a b hab => bind_called hw hab) h]
    by_cases hk : x.kind = 2
    · rw [col_called hw hk e4 e6]
    · simp only [if_neg hk]
theorem called_kind {was nm : ByteArray} {n : Nat} {x y : Ex} (hn : 0 < n) (h : CallsX was nm n x y) : y.kind = x.kind := by
  cases n with
  | zero => omega
  | succ n => exact h.1.1
theorem called_col {was : ByteArray} (hw : was ≠ otherN) {t : Tab} {cs : List Col} {b : Int} {n : Nat} {x y : Ex} (hn : 0 < n) (h : CallsX was otherN n x y) (hk : x.kind = 2) : colR [⟨otherN, t, cs, b⟩] y = colR [⟨was, t, cs, b⟩] x := by
  cases n with
  | zero => omega
  | succ n => exact col_called hw hk h.1.2.2.2.1 h.1.2.2.2.2.2
theorem fold_one (ts : List (Tab × List Col)) (tn w : ByteArray) : foldE (fromR ts) ([], [], 0) [(tn, w)] = match findN (fun p : Tab × List Col => p.1.name) ts tn with
    | none => .error 130
    | some k => match ts[k]? with
      | none => .error 130
      | some t => .ok ([⟨w, t.1, t.2, 0⟩], [(k : Int)], (t.2.length : Int)) := by
  unfold foldE
  have e : fromR ts ([], [], 0) (tn, w) = match findN (fun p : Tab × List Col => p.1.name) ts tn with
    | none => .error 130
    | some k => match ts[k]? with
      | none => .error 130
      | some t => .ok ([⟨w, t.1, t.2, 0⟩], [(k : Int)], (t.2.length : Int)) := by
    unfold fromR
    cases findN (fun p : Tab × List Col => p.1.name) ts tn with
    | none => rfl
    | some k =>
      dsimp only
      rw [List.any_nil, if_neg (by decide)]
      cases ts[k]? with
      | none => rfl
      | some t => dsimp only; rw [List.nil_append, List.nil_append, Int.zero_add]
  rw [e]
  cases findN (fun p : Tab × List Col => p.1.name) ts tn with
  | none => rfl
  | some k =>
    dsimp only
    cases ts[k]? with
    | none => rfl
    | some t => rfl
structure CallsSt (n : Nat) (was tn : ByteArray) (x y : St) : Prop where
  kind : y.kind = x.kind
  star : y.star = x.star
  lim : y.lim = x.lim
  fs : x.fs = [(tn, was)]
  gs : y.fs = [(tn, otherN)]
  xs : Pair (CallsX was otherN n) x.xs y.xs
  hs : Pair (CallsX was otherN n) x.hs y.hs
  us : Pair (CallsX was otherN n) x.us y.us
  ol : Pair (fun a b => CallsX was otherN n a.1 b.1 ∧ b.2 = a.2) x.ol y.ol
theorem choose_called {n : Nat} (hn : 0 < n) {was tn : ByteArray} (hw : was ≠ otherN) {ts : List (Tab × List Col)} {x y : St} (h : CallsSt n was tn x y) : chooseR n ts y = chooseR n ts x := by
  unfold chooseR
  rw [h.kind, h.star, h.lim, h.fs, h.gs, h.xs.1, h.hs.1]
  dsimp only [List.length_singleton]
  have hmid : ∀ (t : Tab × List Col) (tl : List Int) (wd : Int), midR n [⟨otherN, t.1, t.2, 0⟩] tl wd y.hs y.us y.xs x.star y.ol x.lim = midR n [⟨was, t.1, t.2, 0⟩] tl wd x.hs x.us x.xs x.star x.ol x.lim := by
    intro t tl wd
    unfold midR
    rw [pair_cat (R := CallsX was otherN n) (f := holdR n [⟨was, t.1, t.2, 0⟩] false) (g := holdR n [⟨otherN, t.1, t.2, 0⟩] false) (fun a b hab => by unfold holdR; rw [bind_called hw hab]) h.hs,
      pair_each (R := CallsX was otherN n) (f := grpR [⟨was, t.1, t.2, 0⟩]) (g := grpR [⟨otherN, t.1, t.2, 0⟩]) (fun a b hab => by
        unfold grpR
        rw [called_kind hn hab]
        by_cases hk : a.kind = 2
        · rw [if_pos hk, if_pos hk, called_col hw hn hab hk]
        · rw [if_neg hk, if_neg hk]) h.us]
    cases catR (holdR n [⟨was, t.1, t.2, 0⟩] false) x.hs with
    | error e => rfl
    | ok wh =>
      dsimp only
      cases eachR (grpR [⟨was, t.1, t.2, 0⟩]) x.us with
      | error e => rfl
      | ok gl =>
        dsimp only
        unfold restR
        have hgr : grR gl y.xs = grR gl x.xs := by
          unfold grR
          rw [pair_any (R := CallsX was otherN n) (p := fun x => foldK x.kind) (q := fun x => foldK x.kind) (fun a b hab => by rw [called_kind hn hab]) h.xs]
        rw [hgr, pair_each (R := CallsX was otherN n) (f := itemR n [⟨was, t.1, t.2, 0⟩] (grR gl x.xs) gl) (g := itemR n [⟨otherN, t.1, t.2, 0⟩] (grR gl x.xs) gl) (fun a b hab => by
            unfold itemR
            rw [called_kind hn hab, bind_called hw hab]) h.xs,
          pair_each (R := fun a b => CallsX was otherN n a.1 b.1 ∧ b.2 = a.2) (f := ordR [⟨was, t.1, t.2, 0⟩] (grR gl x.xs) gl) (g := ordR [⟨otherN, t.1, t.2, 0⟩] (grR gl x.xs) gl) (fun a b hab => by
            unfold ordR
            rw [called_kind hn hab.1, hab.2]
            by_cases hk : a.1.kind = 2
            · rw [if_pos hk, if_pos hk, called_col hw hn hab.1 hk]
            · rw [if_neg hk, if_neg hk]) h.ol]
        rfl
  rw [fold_one, fold_one]
  cases findN (fun p : Tab × List Col => p.1.name) ts tn with
  | none => rfl
  | some k =>
    dsimp only
    cases ts[k]? with
    | none => rfl
    | some t =>
      dsimp only
      rw [hmid]
theorem pair_mem {α β : Type} {R : α → β → Prop} {l : List α} {l' : List β} (h : Pair R l l') {b : β} (hb : b ∈ l') : ∃ a ∈ l, R a b := by
  obtain ⟨i, hi, rfl⟩ := List.mem_iff_getElem.1 hb
  have hi2 : i < l.length := by have := h.1; omega
  exact ⟨l[i], List.getElem_mem hi2, h.2 i _ _ (List.getElem?_eq_getElem hi2) (List.getElem?_eq_getElem hi)⟩
theorem small_called {n : Nat} {was tn : ByteArray} {x y : St} (h : CallsSt n was tn x y) (hx : x.xs.length ≤ 30 ∧ ∀ z ∈ x.xs, sizeR n z 400 ≤ 400) (hh : x.hs.length ≤ 30 ∧ ∀ z ∈ x.hs, sizeR n z 400 ≤ 400) (hu : x.us.length ≤ 30) (ho : x.ol.length ≤ 12) : StSmall n y := by
  have hc : ∀ z, sizeR n z 400 ≤ 400 → cntX n z ≤ 400 := fun z h => Nat.le_trans (size_cnt n z 400 h) h
  have cx : ∀ b ∈ y.xs, cntX n b ≤ 400 := fun b hb => by
    obtain ⟨a, ha, hab⟩ := pair_mem h.xs hb
    rw [called_cnt hab]
    exact hc a (hx.2 a ha)
  have ch : ∀ b ∈ y.hs, cntX n b ≤ 400 := fun b hb => by
    obtain ⟨a, ha, hab⟩ := pair_mem h.hs hb
    rw [called_cnt hab]
    exact hc a (hh.2 a ha)
  refine ⟨⟨by rw [h.xs.1]; exact hx.1, fun b hb => small_cnt (cx b hb)⟩, ⟨by rw [h.hs.1]; exact hh.1, fun b hb => small_cnt (ch b hb), fun rows b hb p hp => ?_⟩, by rw [h.us.1]; exact hu, by rw [h.ol.1]; exact ho⟩
  have := parts_cnt hp
  have := ch b hb
  exact ⟨(parts_cnt hp).1, by omega⟩
end Go.Proofs.YthdmfaepjemopaaGreatDoor
