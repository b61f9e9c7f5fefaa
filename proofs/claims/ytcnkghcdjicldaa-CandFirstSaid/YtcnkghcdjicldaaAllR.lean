/- Which indexes might help queries: plain. -/
import Derived.Test.YtcnkghcdjicldaaOfR
namespace Go.Proofs.Ytcnkghcdjicldaa
open Go.RowKit

/-- a list with an index more, while there is room -/
def addM (m : Nat) (L : List (Int × List Int)) (t : Int) (c : List Int) : List (Int × List Int) := if L.length < m then addR L t c else L
def eachR (m : Nat) (L ds : List (Int × List Int)) : List (Int × List Int) := ds.foldl (fun L d => addM m L d.1 d.2) L
def basesR (m : Nat) (qs : List Qd) : List (Int × List Int) := qs.foldl (fun L q => eachR m L (ofR q)) []
def mergeR (m : Nat) (L : List (Int × List Int)) (a b : Int × List Int) : List (Int × List Int) := if a.1 = b.1 then addM m L a.1 ((behR a.2 b.2).take 3) else L
def rowR (m : Nat) (base L : List (Int × List Int)) (a : Int × List Int) : List (Int × List Int) := base.foldl (fun L b => mergeR m L a b) L
def allR (m : Nat) (qs : List Qd) : List (Int × List Int) := (basesR m qs).foldl (rowR m (basesR m qs)) (basesR m qs)
/-- an index that is sound -/
def SoundD (d : Int × List Int) : Prop := d.2 ≠ [] ∧ d.2.length ≤ 3 ∧ d.2.Nodup
def Sound (L : List (Int × List Int)) : Prop := (∀ d ∈ L, SoundD d) ∧ L.Nodup
theorem Sound.nil : Sound [] := ⟨(fun d h => by cases h), List.nodup_nil⟩

theorem onceR_nodup {a : List Int} (h : a.Nodup) (c : Int) : (onceR a c).Nodup := by
  unfold onceR
  split
  · exact h
  · rename_i hc
    rw [List.nodup_append]
    refine ⟨h, by simp, fun x hx y hy => ?_⟩
    rintro rfl
    obtain rfl := List.mem_singleton.1 hy
    apply hc
    unfold hasZ
    exact List.contains_iff_mem.2 hx
theorem behR_nodup {a : List Int} (h : a.Nodup) (l : List Int) : (behR a l).Nodup := by
  unfold behR
  induction l generalizing a with
  | nil => exact h
  | cons x l ih => exact ih (onceR_nodup h x)
theorem sideR_nodup (q : Qd) (f : Nat) (ops : List ByteArray) (op : ByteArray) (x y : NodeT) {out : List Int} (h : out.Nodup) : (sideR q f ops op x y out).Nodup := by
  unfold sideR
  split
  · exact onceR_nodup h _
  · exact h
theorem partR_nodup (q : Qd) (f : Nat) (ops : List ByteArray) (n : NodeT) {out : List Int} (h : out.Nodup) : (partR q f ops out n).Nodup := by
  unfold partR
  split
  · split
    · exact sideR_nodup q f ops _ _ _ (sideR_nodup q f ops _ _ _ h)
    · exact h
  · exact h
theorem heldR_nodup (q : Qd) (f : Nat) (ops : List ByteArray) : (heldR q f ops).Nodup := by
  unfold heldR
  have : ∀ (l : List NodeT) (out : List Int), out.Nodup → (l.foldl (partR q f ops) out).Nodup := by
    intro l
    induction l with
    | nil => intro out h; exact h
    | cons x l ih => intro out h; exact ih _ (partR_nodup q f ops x h)
  exact this _ _ List.nodup_nil
theorem byR_nodup (q : Qd) (f : Nat) : (byR q f).Nodup := by
  unfold byR placesR colsR
  have : ∀ (l : List Int) (out : List Int), out.Nodup → (l.foldl (fun out a => onceR out (colR q f a)) out).Nodup := by
    intro l
    induction l with
    | nil => intro out h; exact h
    | cons x l ih => intro out h; exact ih _ (onceR_nodup h _)
  split
  · split
    · exact this _ _ List.nodup_nil
    · exact List.nodup_nil
  · exact List.nodup_nil
theorem take_nodup {l : List Int} (h : l.Nodup) (n : Nat) : (l.take n).Nodup := h.sublist (List.take_sublist n l)

theorem addR_pre (L : List (Int × List Int)) (t : Int) (c : List Int) : L <+: addR L t c := by
  unfold addR
  split
  · exact List.prefix_rfl
  · split
    · exact List.prefix_rfl
    · exact List.prefix_append _ _
theorem addR_sound {L : List (Int × List Int)} (h : Sound L) (t : Int) {c : List Int} (hc : c.Nodup) : Sound (addR L t c) := by
  unfold addR
  split
  · exact h
  · rename_i h0
    split
    · exact h
    · rename_i h1
      refine ⟨fun d hd => ?_, ?_⟩
      · rcases List.mem_append.1 hd with hd | hd
        · exact h.1 d hd
        · obtain rfl := List.mem_singleton.1 hd
          exact ⟨h0, by simp [List.length_take]; omega, take_nodup hc 3⟩
      · rw [List.nodup_append]
        refine ⟨h.2, by simp, fun x hx y hy => ?_⟩
        rintro rfl
        obtain rfl := List.mem_singleton.1 hy
        apply h1
        rw [List.any_eq_true]
        exact ⟨_, hx, by simp⟩
theorem fold_sound {α : Type} (g : α → List Int) (t : Int) (hg : ∀ x, (g x).Nodup) (l : List α) {L : List (Int × List Int)} (h : Sound L) : Sound (l.foldl (fun L c => addR L t (g c)) L) := by
  induction l generalizing L with
  | nil => exact h
  | cons x l ih => exact ih (addR_sound h t (hg x))
theorem stepR_sound (q : Qd) {L : List (Int × List Int)} (h : Sound L) (f : Nat) (t : Int) : Sound (stepR q L f t) := by
  unfold stepR
  have h1 := addR_sound h t (heldR_nodup q f eqOps)
  have h2 := fold_sound (fun c => behR ((heldR q f eqOps).take 2) [c]) t (fun c => behR_nodup (take_nodup (heldR_nodup q f eqOps) 2) [c]) (heldR q f rangeOps) h1
  have h3 := fold_sound (fun c => [c]) t (fun c => by simp) (behR (heldR q f eqOps) (heldR q f rangeOps)) h2
  have h4 := addR_sound h3 t (byR_nodup q f)
  simp only
  split
  · exact h4
  · exact addR_sound h4 t (behR_nodup (heldR_nodup q f eqOps) _)
theorem ofK_sound (q : Qd) (k : Nat) : Sound (ofK q k) := by
  induction k with
  | zero => exact Sound.nil
  | succ k ih =>
    rw [ofK]
    split
    · exact stepR_sound q ih k _
    · exact ih
theorem ofR_sound (q : Qd) : Sound (ofR q) := ofK_sound q _
section
variable (m : Nat)
theorem addM_le {L : List (Int × List Int)} (h : L.length ≤ m) (t : Int) (c : List Int) : (addM m L t c).length ≤ m := by
  unfold addM
  split
  · have := addR_le L t c; omega
  · exact h
theorem addM_pre (L : List (Int × List Int)) (t : Int) (c : List Int) : L <+: addM m L t c := by
  unfold addM
  split
  · exact addR_pre L t c
  · exact List.prefix_rfl
theorem addM_sound {L : List (Int × List Int)} (h : Sound L) (t : Int) {c : List Int} (hc : c.Nodup) : Sound (addM m L t c) := by
  unfold addM
  split
  · exact addR_sound h t hc
  · exact h
theorem eachR_le (ds : List (Int × List Int)) {L : List (Int × List Int)} (h : L.length ≤ m) : (eachR m L ds).length ≤ m := by
  unfold eachR
  induction ds generalizing L with
  | nil => exact h
  | cons d ds ih => exact ih (addM_le m h _ _)
theorem eachR_pre (ds L : List (Int × List Int)) : L <+: eachR m L ds := by
  unfold eachR
  induction ds generalizing L with
  | nil => exact List.prefix_rfl
  | cons d ds ih => exact (addM_pre m L d.1 d.2).trans (ih _)
theorem eachR_sound {ds : List (Int × List Int)} (hd : Sound ds) {L : List (Int × List Int)} (h : Sound L) : Sound (eachR m L ds) := by
  unfold eachR
  have hd1 := hd.1
  clear hd
  induction ds generalizing L with
  | nil => exact h
  | cons d ds ih => exact ih (addM_sound m h _ (hd1 d (by simp)).2.2) (fun x hx => hd1 x (by simp [hx]))
theorem basesR_le (qs : List Qd) : (basesR m qs).length ≤ m := by
  unfold basesR
  have : ∀ (qs : List Qd) (L : List (Int × List Int)), L.length ≤ m → (qs.foldl (fun L q => eachR m L (ofR q)) L).length ≤ m := by
    intro qs
    induction qs with
    | nil => intro L h; exact h
    | cons q qs ih => intro L h; exact ih _ (eachR_le m _ h)
  exact this _ _ (Nat.zero_le _)
theorem basesR_sound (qs : List Qd) : Sound (basesR m qs) := by
  unfold basesR
  have : ∀ (qs : List Qd) (L : List (Int × List Int)), Sound L → Sound (qs.foldl (fun L q => eachR m L (ofR q)) L) := by
    intro qs
    induction qs with
    | nil => intro L h; exact h
    | cons q qs ih => intro L h; exact ih _ (eachR_sound m (ofR_sound q) h)
  exact this _ _ Sound.nil
theorem mergeR_le {L : List (Int × List Int)} (h : L.length ≤ m) (a b : Int × List Int) : (mergeR m L a b).length ≤ m := by
  unfold mergeR
  split
  · exact addM_le m h _ _
  · exact h
theorem mergeR_pre (L : List (Int × List Int)) (a b : Int × List Int) : L <+: mergeR m L a b := by
  unfold mergeR
  split
  · exact addM_pre m L _ _
  · exact List.prefix_rfl
theorem mergeR_sound {L : List (Int × List Int)} (h : Sound L) {a b : Int × List Int} (ha : SoundD a) : Sound (mergeR m L a b) := by
  unfold mergeR
  split
  · exact addM_sound m h _ (take_nodup (behR_nodup ha.2.2 _) 3)
  · exact h
theorem rowR_le (base : List (Int × List Int)) {L : List (Int × List Int)} (h : L.length ≤ m) (a : Int × List Int) : (rowR m base L a).length ≤ m := by
  unfold rowR
  induction base generalizing L with
  | nil => exact h
  | cons b base ih => exact ih (mergeR_le m h a b)
theorem rowR_pre (base L : List (Int × List Int)) (a : Int × List Int) : L <+: rowR m base L a := by
  unfold rowR
  induction base generalizing L with
  | nil => exact List.prefix_rfl
  | cons b base ih => exact (mergeR_pre m L a b).trans (ih _)
theorem rowR_sound (base : List (Int × List Int)) {L : List (Int × List Int)} (h : Sound L) {a : Int × List Int} (ha : SoundD a) : Sound (rowR m base L a) := by
  unfold rowR
  induction base generalizing L with
  | nil => exact h
  | cons b base ih => exact ih (mergeR_sound m h ha)
theorem cross_all (base : List (Int × List Int)) : ∀ (l : List (Int × List Int)) (L : List (Int × List Int)), L.length ≤ m → Sound L → (∀ a ∈ l, SoundD a) →
    (l.foldl (rowR m base) L).length ≤ m ∧ Sound (l.foldl (rowR m base) L) ∧ L <+: l.foldl (rowR m base) L := by
  intro l
  induction l with
  | nil => intro L h1 h2 _; exact ⟨h1, h2, List.prefix_rfl⟩
  | cons a l ih =>
    intro L h1 h2 h3
    obtain ⟨g1, g2, g3⟩ := ih (rowR m base L a) (rowR_le m base h1 a) (rowR_sound m base h2 (h3 a (by simp))) (fun x hx => h3 x (by simp [hx]))
    exact ⟨g1, g2, (rowR_pre m base L a).trans g3⟩
theorem allR_facts (qs : List Qd) : (allR m qs).length ≤ m ∧ Sound (allR m qs) ∧ basesR m qs <+: allR m qs :=
  cross_all m _ _ _ (basesR_le m qs) (basesR_sound m qs) (basesR_sound m qs).1
/-- the indexes of a list that is sound, one by one -/
theorem eachR_take : ∀ (ds p : List (Int × List Int)), Sound (p ++ ds) → p.length ≤ m → eachR m p ds = (p ++ ds).take m := by
  intro ds
  induction ds with
  | nil => intro p _ h; rw [List.append_nil, List.take_of_length_le h]; rfl
  | cons d ds ih =>
    intro p hs hl
    show eachR m (addM m p d.1 d.2) ds = _
    by_cases hlt : p.length < m
    · have hd : SoundD d := hs.1 d (by simp)
      have e : addM m p d.1 d.2 = p ++ [d] := by
        unfold addM addR
        rw [if_pos hlt, List.take_of_length_le hd.2.1, if_neg hd.1, if_neg]
        rw [List.any_eq_true]
        rintro ⟨x, hx, he⟩
        have hxd : x = d := by
          simp only [Bool.and_eq_true, beq_iff_eq] at he
          exact Prod.ext he.1 he.2
        subst hxd
        have := (List.nodup_append.1 hs.2).2.2 x hx x (by simp)
        exact this rfl
      rw [e, ih (p ++ [d]) (by simpa using hs) (by simp; omega)]
      simp
    · have hm : p.length = m := by omega
      have stay : ∀ (ds : List (Int × List Int)), eachR m p ds = p := by
        intro ds
        induction ds with
        | nil => rfl
        | cons d ds ih2 =>
          show eachR m (addM m p d.1 d.2) ds = p
          have : addM m p d.1 d.2 = p := by unfold addM; rw [if_neg hlt]
          rw [this]; exact ih2
      have e : addM m p d.1 d.2 = p := by unfold addM; rw [if_neg hlt]
      rw [e, stay, ← hm, List.take_left']
      rfl
theorem allR_first (q : Qd) (qs : List Qd) : (ofR q).take m <+: allR m (q :: qs) := by
  have h1 : basesR m (q :: qs) = qs.foldl (fun L q => eachR m L (ofR q)) (eachR m [] (ofR q)) := rfl
  have h2 : ∀ (qs : List Qd) (L : List (Int × List Int)), L <+: qs.foldl (fun L q => eachR m L (ofR q)) L := by
    intro qs
    induction qs with
    | nil => intro L; exact List.prefix_rfl
    | cons q qs ih => intro L; exact (eachR_pre m _ L).trans (ih _)
  have h3 := h2 qs (eachR m [] (ofR q))
  rw [← h1, eachR_take m (ofR q) [] (ofR_sound q) (Nat.zero_le _), List.nil_append] at h3
  exact h3.trans (allR_facts m (q :: qs)).2.2
/-- where both have a place, they agree -/
theorem allR_agree (q : Qd) (qs : List Qd) (i : Nat) (d e : Int × List Int) (h1 : (ofR q)[i]? = some d) (h2 : (allR m (q :: qs))[i]? = some e) : d = e := by
  have hi : i < m := by
    have := (List.getElem?_eq_some_iff.1 h2).1
    have := (allR_facts m (q :: qs)).1
    omega
  have h3 : ((ofR q).take m)[i]? = some d := by rw [List.getElem?_take, if_pos hi]; exact h1
  obtain ⟨r, hr⟩ := allR_first m q qs
  rw [← hr, List.getElem?_append_left (List.getElem?_eq_some_iff.1 h3).1, h3] at h2
  exact Option.some.inj h2
end
end Go.Proofs.Ytcnkghcdjicldaa
