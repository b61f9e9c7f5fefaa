/- What changes a schema, each in all its ways: the program's and the document's answers. The walk of the law's do: the program's and the document's answer are the same, and so are the schemas. -/
import Derived.Test.YtcgpflkaejbkhaaGreatDoorKB
import Derived.Test.YtcgpflkaejbkhaaGreatDoorJZ
import Derived.Test.YtcgpflkaejbkhaaGreatDoorKE
import Derived.Test.YtcgpflkaejbkhaaGreatDoorKD
import Derived.Test.YtcgpflkaejbkhaaGreatDoorKG
import Derived.Test.YtcgpflkaejbkhaaGreatDoorKH
namespace Go.Proofs.YtcgpflkaejbkhaaGreatDoor
open Go.RowKit

/-- a schema that is read: its slices, lengths that are no bother -/
def ReadS (w : World) (A ia : Option Addr) (ts : List (Tab × List Col)) (xs : List (Idx × List Int)) : Prop := DeepAt w A ts ∧ DeepIx w ia xs ∧ ts.length ≤ 1000 ∧ xs.length ≤ 1000 ∧ (∀ p ∈ ts, p.2.length ≤ 1000) ∧ (∀ p ∈ xs, p.2.length ≤ 1000)
theorem ReadS.keep {w w' : World} {A ia : Option Addr} {ts : List (Tab × List Col)} {xs : List (Idx × List Int)} (hB : Below w.heap.size w w') (h : ReadS w A ia ts xs) : ReadS w' A ia ts xs := ⟨h.1.keep hB, h.2.1.keep hB, h.2.2⟩
theorem DeepAt.nil {w : World} {A : Option Addr} {ts : List (Tab × List Col)} (h : DeepAt w A ts) (hA : A = none) : ts = [] := by
  rcases h.1.2 with h0 | ⟨b, off, h1, _⟩
  · rwa [List.map_eq_nil_iff, List.map_eq_nil_iff] at h0
  · rw [hA] at h1; cases h1
theorem DeepIx.nil {w : World} {A : Option Addr} {xs : List (Idx × List Int)} (h : DeepIx w A xs) (hA : A = none) : xs = [] := by
  rcases h.1.2 with h0 | ⟨b, off, h1, _⟩
  · rwa [List.map_eq_nil_iff, List.map_eq_nil_iff] at h0
  · rw [hA] at h1; cases h1
/-- a table that is handed in -/
def ReadTab (w : World) (t : Tab) (cl : List Col) : Prop := ColsAt w t.ca cl ∧ t.cn = cl.length ∧ cl.length ≤ t.cc ∧ (t.ca = none → t.cc = 0) ∧ cl.length ≤ 1000
def ReadIdx (w : World) (t : Idx) (cl : List Int) : Prop := IntsAt w t.pa cl ∧ t.pn = cl.length ∧ cl.length ≤ t.pc ∧ (t.pa = none → t.pc = 0) ∧ cl.length ≤ 1000
theorem ReadTab.keep {w w' : World} {t : Tab} {cl : List Col} (hB : Below w.heap.size w w') (h : ReadTab w t cl) : ReadTab w' t cl := ⟨CellsAt.keep hB h.1, h.2⟩
theorem ReadIdx.keep {w w' : World} {t : Idx} {cl : List Int} (hB : Below w.heap.size w w') (h : ReadIdx w t cl) : ReadIdx w' t cl := ⟨IntsAt.keep hB h.1, h.2⟩
theorem find_t {ts : List (Tab × List Col)} {nm : ByteArray} : findN (fun p : Tab × List Col => p.1.name) ts nm = findN PT.name (ts.map ptOf) nm := (findN_map (fun p : Tab × List Col => p.1.name) PT.name ptOf (fun _ => rfl) ts nm).symm
theorem find_none_t {ts : List (Tab × List Col)} {nm : ByteArray} (h : findN PT.name (ts.map ptOf) nm = none) : ∀ p ∈ ts.map Prod.fst, sameN p.name nm = false := by
  rw [← find_t] at h
  unfold findN at h
  rw [List.findIdx?_eq_none_iff] at h
  intro p hp
  obtain ⟨q, hq, rfl⟩ := List.mem_map.1 hp
  exact h q hq
theorem find_some_t {ts : List (Tab × List Col)} {nm : ByteArray} {k : Nat} (h : findN PT.name (ts.map ptOf) nm = some k) : ∃ p ∈ ts.map Prod.fst, sameN p.name nm = true := by
  rw [← find_t] at h
  unfold findN at h
  obtain ⟨h1, h2, _⟩ := List.findIdx?_eq_some_iff_getElem.1 h
  exact ⟨ts[k].1, List.mem_map.2 ⟨ts[k], List.getElem_mem h1, rfl⟩, h2⟩
theorem put_all (m : Int) (gt : Nat → Nat) (ht : ∀ j, j < 23 → finD (Ieee.double.read (gt j)) = true) (A : Option Addr) (c : Nat) (ts : List (Tab × List Col)) (ia : Option Addr) (ic : Nat) (xs : List (Idx × List Int)) (t : Tab) (cl : List Col) (w : World) (hG : Glob m gt w) (hS : ReadS w A ia ts xs) (hT : ReadTab w t cl) :
    Calls Tryz.prog 27 #[.agg #[.slice A ts.length c, .slice ia xs.length ic], .agg #[.string t.name, .slice t.ca t.cn t.cc, .int .i64 t.root, .int .i64 t.next, .int .i64 t.rows]] w (OutP w (errT (ts.map ptOf) (ptOf (t, cl))) (putT (ts.map ptOf) (ptOf (t, cl))) (xs.map pxOf)) := by
  obtain ⟨hD, hX, hn, hm, hl, hlx⟩ := hS
  obtain ⟨h1, h2, h3, h4, h5⟩ := hT
  have e : (ts.map Prod.fst).length = ts.length := List.length_map ..
  unfold errT putT
  cases hb : tabBad t with
  | true =>
    rw [show ptBad (ptOf (t, cl)) = true from hb, if_pos rfl]
    have h := put_bad m gt ht A c (ts.map Prod.fst) ia xs.length ic t w hG hD.1 hb
    rw [e] at h
    exact h.mono fun _ _ h => h.out (by decide)
  | false =>
    rw [show ptBad (ptOf (t, cl)) = false from hb, if_neg (by decide)]
    cases hf : findN PT.name (ts.map ptOf) (ptOf (t, cl)).name with
    | none =>
      by_cases h8 : 8 ≤ ts.length
      · rw [if_pos (by rw [List.length_map]; simp [h8])]
        have h := put_many m gt ht A c (ts.map Prod.fst) ia xs.length ic t w hG hD.1 hb (find_none_t hf) (by rw [e]; exact h8)
        rw [e] at h
        exact h.mono fun _ _ h => h.out (by decide)
      · rw [if_neg (by rw [List.length_map]; simp [h8])]
        by_cases hcr : colsR cl = 0
        · have h := put_fresh m gt ht A c ts ia ic xs t cl w hG hD hX (by omega) (find_t.trans hf) hm hl hlx h1 h2 h3 h4 hb hcr h5
          rw [show (ptOf (t, cl)).cols = cl from rfl, hcr]
          exact h
        · have h := put_cols m gt ht A c (ts.map Prod.fst) ia xs.length ic t cl w hG hD.1 h1 h2 h3 hb (Or.inr (by rw [e]; omega)) hcr
          rw [e] at h
          exact h.mono fun _ _ h => h.out hcr
    | some k =>
      rw [if_neg (by simp)]
      by_cases hcr : colsR cl = 0
      · have h := put_again m gt ht A c ts ia ic xs t cl w hG hD hX hn k (find_t.trans hf) hm hl hlx h1 h2 h3 h4 hb hcr h5
        rw [show (ptOf (t, cl)).cols = cl from rfl, hcr]
        exact h
      · have h := put_cols m gt ht A c (ts.map Prod.fst) ia xs.length ic t cl w hG hD.1 h1 h2 h3 hb (Or.inl (find_some_t hf)) hcr
        rw [e] at h
        exact h.mono fun _ _ h => h.out hcr
theorem rput_all (m : Int) (gt : Nat → Nat) (ht : ∀ j, j < 23 → finD (Ieee.double.read (gt j)) = true) (A : Option Addr) (c : Nat) (ts : List (Tab × List Col)) (ia : Option Addr) (ic : Nat) (xs : List (Idx × List Int)) (t : Tab) (cl : List Col) (w : World) (hG : Glob m gt w) (hS : ReadS w A ia ts xs) (hT : ReadTab w t cl) :
    Calls Tryz.prog 29 #[.agg #[.slice A ts.length c, .slice ia xs.length ic], .agg #[.string t.name, .slice t.ca t.cn t.cc, .int .i64 t.root, .int .i64 t.next, .int .i64 t.rows]] w (DocP w (errT (ts.map ptOf) (ptOf (t, cl))) (putT (ts.map ptOf) (ptOf (t, cl))) (xs.map pxOf)) := by
  obtain ⟨hD, hX, hn, hm, hl, hlx⟩ := hS
  obtain ⟨h1, h2, h3, h4, h5⟩ := hT
  have e : (ts.map Prod.fst).length = ts.length := List.length_map ..
  unfold errT putT
  cases hb : tabBad t with
  | true =>
    rw [show ptBad (ptOf (t, cl)) = true from hb, if_pos rfl]
    have h := rput_bad m gt ht A c (ts.map Prod.fst) ia xs.length ic t w hG hD.1 hb
    rw [e] at h
    exact h.mono fun _ _ h => h.doc (by decide)
  | false =>
    rw [show ptBad (ptOf (t, cl)) = false from hb, if_neg (by decide)]
    cases hf : findN PT.name (ts.map ptOf) (ptOf (t, cl)).name with
    | none =>
      by_cases h8 : 8 ≤ ts.length
      · rw [if_pos (by rw [List.length_map]; simp [h8])]
        have h := rput_many m gt ht A c (ts.map Prod.fst) ia xs.length ic t w hG hD.1 hb (find_none_t hf) (by rw [e]; exact h8)
        rw [e] at h
        exact h.mono fun _ _ h => h.doc (by decide)
      · rw [if_neg (by rw [List.length_map]; simp [h8])]
        by_cases hcr : colsR cl = 0
        · have h := rput_fresh m gt ht A c ts ia ic xs t cl w hG hD hX hD.nil hX.nil (by omega) hf hl hlx h1 h2 h3 h4 hb hcr h5
          rw [show (ptOf (t, cl)).cols = cl from rfl, hcr]
          exact h
        · have h := rput_cols m gt ht A c (ts.map Prod.fst) ia xs.length ic t cl w hG hD.1 h1 h2 h3 hb (Or.inr (by rw [e]; omega)) hcr
          rw [e] at h
          exact h.mono fun _ _ h => h.doc hcr
    | some k =>
      rw [if_neg (by simp)]
      by_cases hcr : colsR cl = 0
      · have h := rput_again m gt ht A c ts ia ic xs t cl w hG hD hX hD.nil hX.nil hn k hf hl hlx h1 h2 h3 h4 hb hcr h5
        rw [show (ptOf (t, cl)).cols = cl from rfl, hcr]
        exact h
      · have h := rput_cols m gt ht A c (ts.map Prod.fst) ia xs.length ic t cl w hG hD.1 h1 h2 h3 hb (Or.inl (find_some_t hf)) hcr
        rw [e] at h
        exact h.mono fun _ _ h => h.doc hcr
theorem errX_some {T : List PT} {X : List PX} {x : PX} (hb : pxBad x = false) {k : Nat} {t : PT} (hf : findN PT.name T x.table = some k) (ht : T[k]? = some t) (hq : findN PX.name X x.name ≠ none ∨ X.length < 12) : errX T X x = placesR t.cols.length x.places := by
  unfold errX
  rw [hb, if_neg (by decide), hf]
  dsimp only
  rw [if_neg, ht]
  intro h
  rw [Bool.and_eq_true, Option.isNone_iff_eq_none, decide_eq_true_iff] at h
  rcases hq with hq | hq
  · exact hq h.1
  · omega
theorem putx_all (m : Int) (gt : Nat → Nat) (ht : ∀ j, j < 23 → finD (Ieee.double.read (gt j)) = true) (A : Option Addr) (c : Nat) (ts : List (Tab × List Col)) (ia : Option Addr) (ic : Nat) (xs : List (Idx × List Int)) (t : Idx) (cl : List Int) (w : World) (hG : Glob m gt w) (hS : ReadS w A ia ts xs) (hT : ReadIdx w t cl) :
    Calls Tryz.prog 30 #[.agg #[.slice A ts.length c, .slice ia xs.length ic], .agg #[.string t.name, .string t.table, .slice t.pa t.pn t.pc, .int .i64 t.state, .int .i64 t.root, .int .i64 t.cursor]] w (OutP w (errX (ts.map ptOf) (xs.map pxOf) (pxOf (t, cl))) (ts.map ptOf) (putX (xs.map pxOf) (pxOf (t, cl)))) := by
  obtain ⟨hD, hX, hn, hm, hl, hlx⟩ := hS
  obtain ⟨h1, h2, h3, h4, h5⟩ := hT
  cases hb : idxBad t with
  | true =>
    rw [show errX (ts.map ptOf) (xs.map pxOf) (pxOf (t, cl)) = 7 by unfold errX; rw [show pxBad (pxOf (t, cl)) = true from hb, if_pos rfl]]
    exact (putx_bad m gt ht A c ts ia ic xs t w hG hD hX hb).mono fun _ _ h => h.out (by decide)
  | false =>
    have hb2 : pxBad (pxOf (t, cl)) = false := hb
    cases hf : findN PT.name (ts.map ptOf) t.table with
    | none =>
      rw [show errX (ts.map ptOf) (xs.map pxOf) (pxOf (t, cl)) = 130 by unfold errX; rw [hb2, if_neg (by decide), show (pxOf (t, cl)).table = t.table from rfl, hf]]
      exact (putx_none m gt ht A c ts ia ic xs t w hG hD hX hb hf).mono fun _ _ h => h.out (by decide)
    | some kt =>
      have hkt : kt < ts.length := by have := findN_lt hf; rwa [List.length_map] at this
      obtain ⟨⟨t0, l0⟩, ht0⟩ : ∃ p, ts[kt]? = some p := ⟨_, List.getElem?_eq_getElem hkt⟩
      have hpt : (ts.map ptOf)[kt]? = some (ptOf (t0, l0)) := by rw [List.getElem?_map, ht0]; rfl
      by_cases hmany : findN PX.name (xs.map pxOf) t.name = none ∧ 12 ≤ xs.length
      · rw [show errX (ts.map ptOf) (xs.map pxOf) (pxOf (t, cl)) = 11 by
          unfold errX
          rw [hb2, if_neg (by decide), show (pxOf (t, cl)).table = t.table from rfl, hf]
          dsimp only
          rw [show (pxOf (t, cl)).name = t.name from rfl, hmany.1, if_pos (by rw [List.length_map]; simp [hmany.2])]]
        exact (putx_many m gt ht A c ts ia ic xs t w hG hD hX hb kt hf hmany.1 hmany.2).mono fun _ _ h => h.out (by decide)
      · have hq : findN PX.name (xs.map pxOf) (pxOf (t, cl)).name ≠ none ∨ (xs.map pxOf).length < 12 := by
          rw [List.length_map]
          by_cases h : findN PX.name (xs.map pxOf) t.name = none
          · exact Or.inr (Nat.lt_of_not_le (fun h12 => hmany ⟨h, h12⟩))
          · exact Or.inl h
        rw [errX_some hb2 (show findN PT.name (ts.map ptOf) (pxOf (t, cl)).table = some kt from hf) hpt hq]
        show Calls Tryz.prog 30 _ w (OutP w (placesR l0.length cl) _ _)
        by_cases hcr : placesR l0.length cl = 0
        · rw [hcr]
          unfold putX
          rw [show (pxOf (t, cl)).name = t.name from rfl] at hq ⊢
          cases hi : findN PX.name (xs.map pxOf) t.name with
          | none => exact putx_fresh m gt ht A c ts ia ic xs t w hG hD hX hb kt t0 l0 hf ht0 cl h1 h2 h3 h4 hcr h5 hn hl hlx (by rw [List.length_map] at hq; rcases hq with hq | hq; exact absurd hi hq; omega) hi
          | some k => exact putx_again m gt ht A c ts ia ic xs t w hG hD hX hb kt t0 l0 hf ht0 cl h1 h2 h3 h4 hcr h5 hn hl hlx hm k hi
        · refine (putx_places m gt ht A c ts ia ic xs t w hG hD hX hb kt t0 l0 hf ht0 cl h1 h2 h3 ?_ hcr).mono fun _ _ h => h.out hcr
          rw [List.length_map] at hq
          cases hi : findN PX.name (xs.map pxOf) t.name with
          | none => exact Or.inr ⟨rfl, by rcases hq with hq | hq; exact absurd hi hq; exact hq⟩
          | some k => exact Or.inl ⟨k, rfl⟩
theorem rputx_all (m : Int) (gt : Nat → Nat) (ht : ∀ j, j < 23 → finD (Ieee.double.read (gt j)) = true) (A : Option Addr) (c : Nat) (ts : List (Tab × List Col)) (ia : Option Addr) (ic : Nat) (xs : List (Idx × List Int)) (t : Idx) (cl : List Int) (w : World) (hG : Glob m gt w) (hS : ReadS w A ia ts xs) (hT : ReadIdx w t cl) :
    Calls Tryz.prog 31 #[.agg #[.slice A ts.length c, .slice ia xs.length ic], .agg #[.string t.name, .string t.table, .slice t.pa t.pn t.pc, .int .i64 t.state, .int .i64 t.root, .int .i64 t.cursor]] w (DocP w (errX (ts.map ptOf) (xs.map pxOf) (pxOf (t, cl))) (ts.map ptOf) (putX (xs.map pxOf) (pxOf (t, cl)))) := by
  obtain ⟨hD, hX, hn, hm, hl, hlx⟩ := hS
  obtain ⟨h1, h2, h3, h4, h5⟩ := hT
  cases hb : idxBad t with
  | true =>
    rw [show errX (ts.map ptOf) (xs.map pxOf) (pxOf (t, cl)) = 7 by unfold errX; rw [show pxBad (pxOf (t, cl)) = true from hb, if_pos rfl]]
    exact (rputx_bad m gt ht A c ts ia ic xs t w hG hD hX hb).mono fun _ _ h => h.doc (by decide)
  | false =>
    have hb2 : pxBad (pxOf (t, cl)) = false := hb
    cases hf : findN PT.name (ts.map ptOf) t.table with
    | none =>
      rw [show errX (ts.map ptOf) (xs.map pxOf) (pxOf (t, cl)) = 130 by unfold errX; rw [hb2, if_neg (by decide), show (pxOf (t, cl)).table = t.table from rfl, hf]]
      exact (rputx_none m gt ht A c ts ia ic xs t w hG hD hX hb hf).mono fun _ _ h => h.doc (by decide)
    | some kt =>
      have hkt : kt < ts.length := by have := findN_lt hf; rwa [List.length_map] at this
      obtain ⟨⟨t0, l0⟩, ht0⟩ : ∃ p, ts[kt]? = some p := ⟨_, List.getElem?_eq_getElem hkt⟩
      have hpt : (ts.map ptOf)[kt]? = some (ptOf (t0, l0)) := by rw [List.getElem?_map, ht0]; rfl
      by_cases hmany : findN PX.name (xs.map pxOf) t.name = none ∧ 12 ≤ xs.length
      · rw [show errX (ts.map ptOf) (xs.map pxOf) (pxOf (t, cl)) = 11 by
          unfold errX
          rw [hb2, if_neg (by decide), show (pxOf (t, cl)).table = t.table from rfl, hf]
          dsimp only
          rw [show (pxOf (t, cl)).name = t.name from rfl, hmany.1, if_pos (by rw [List.length_map]; simp [hmany.2])]]
        exact (rputx_many m gt ht A c ts ia ic xs t w hG hD hX hb kt hf hmany.1 hmany.2).mono fun _ _ h => h.doc (by decide)
      · have hq : findN PX.name (xs.map pxOf) (pxOf (t, cl)).name ≠ none ∨ (xs.map pxOf).length < 12 := by
          rw [List.length_map]
          by_cases h : findN PX.name (xs.map pxOf) t.name = none
          · exact Or.inr (Nat.lt_of_not_le (fun h12 => hmany ⟨h, h12⟩))
          · exact Or.inl h
        rw [errX_some hb2 (show findN PT.name (ts.map ptOf) (pxOf (t, cl)).table = some kt from hf) hpt hq]
        show Calls Tryz.prog 31 _ w (DocP w (placesR l0.length cl) _ _)
        by_cases hcr : placesR l0.length cl = 0
        · rw [hcr]
          unfold putX
          rw [show (pxOf (t, cl)).name = t.name from rfl] at hq ⊢
          cases hi : findN PX.name (xs.map pxOf) t.name with
          | none => exact rputx_fresh m gt ht A c ts ia ic xs t w hG hD hX hb kt t0 l0 hf ht0 cl h1 h2 h3 hD.nil hX.nil h4 hcr h5 hn hl hlx (by rw [List.length_map] at hq; rcases hq with hq | hq; exact absurd hi hq; omega) hi
          | some k => exact rputx_again m gt ht A c ts ia ic xs t w hG hD hX hb kt t0 l0 hf ht0 cl h1 h2 h3 hD.nil hX.nil h4 hcr h5 hn hl hlx hm k hi
        · refine (rputx_places m gt ht A c ts ia ic xs t w hG hD hX hb kt t0 l0 hf ht0 cl h1 h2 h3 ?_ hcr).mono fun _ _ h => h.doc hcr
          rw [List.length_map] at hq
          cases hi : findN PX.name (xs.map pxOf) t.name with
          | none => exact Or.inr ⟨rfl, by rcases hq with hq | hq; exact absurd hi hq; exact hq⟩
          | some k => exact Or.inl ⟨k, rfl⟩
theorem sdrop_all (A : Option Addr) (c : Nat) (ts : List (Tab × List Col)) (ia : Option Addr) (ic : Nat) (xs : List (Idx × List Int)) (nm : ByteArray) (w : World) (hS : ReadS w A ia ts xs) :
    Calls Tryz.prog 32 #[.agg #[.slice A ts.length c, .slice ia xs.length ic], .string nm] w (OutP w (errD (ts.map ptOf) nm) (dropT (ts.map ptOf) nm) (dropTX (xs.map pxOf) nm)) := by
  obtain ⟨hD, hX, hn, hm, hl, hlx⟩ := hS
  unfold errD dropT dropTX
  cases hf : findN PT.name (ts.map ptOf) nm with
  | none => exact (drop_none A c ts ia ic xs nm w hD hX hf).mono fun _ _ h => h.out (by decide)
  | some k => exact drop_some A c ts ia ic xs nm w hD hX hn hm hl hlx k hf
theorem rdrop_all (A : Option Addr) (c : Nat) (ts : List (Tab × List Col)) (ia : Option Addr) (ic : Nat) (xs : List (Idx × List Int)) (nm : ByteArray) (w : World) (hS : ReadS w A ia ts xs) :
    Calls Tryz.prog 33 #[.agg #[.slice A ts.length c, .slice ia xs.length ic], .string nm] w (DocP w (errD (ts.map ptOf) nm) (dropT (ts.map ptOf) nm) (dropTX (xs.map pxOf) nm)) := by
  obtain ⟨hD, hX, hn, hm, hl, hlx⟩ := hS
  unfold errD dropT dropTX
  cases hf : findN PT.name (ts.map ptOf) nm with
  | none => exact (rdrop_none A c ts ia ic xs nm w hD hX hf).mono fun _ _ h => h.doc (by decide)
  | some k => exact rdrop_some A c ts ia ic xs nm w hD hX hD.nil hX.nil hn hm hl hlx k hf
theorem dropx_all (A : Option Addr) (c : Nat) (ts : List (Tab × List Col)) (ia : Option Addr) (ic : Nat) (xs : List (Idx × List Int)) (nm : ByteArray) (w : World) (hS : ReadS w A ia ts xs) :
    Calls Tryz.prog 34 #[.agg #[.slice A ts.length c, .slice ia xs.length ic], .string nm] w (OutP w (errDX (xs.map pxOf) nm) (ts.map ptOf) (dropX (xs.map pxOf) nm)) := by
  obtain ⟨hD, hX, hn, hm, hl, hlx⟩ := hS
  unfold errDX dropX
  cases hf : findN PX.name (xs.map pxOf) nm with
  | none => exact (dropx_none A c ts ia ic xs nm w hD hX hf).mono fun _ _ h => h.out (by decide)
  | some k => exact dropx_some A c ts ia ic xs nm w hD hX hn hm hl hlx k hf
theorem rdropx_all (A : Option Addr) (c : Nat) (ts : List (Tab × List Col)) (ia : Option Addr) (ic : Nat) (xs : List (Idx × List Int)) (nm : ByteArray) (w : World) (hS : ReadS w A ia ts xs) :
    Calls Tryz.prog 35 #[.agg #[.slice A ts.length c, .slice ia xs.length ic], .string nm] w (DocP w (errDX (xs.map pxOf) nm) (ts.map ptOf) (dropX (xs.map pxOf) nm)) := by
  obtain ⟨hD, hX, hn, hm, hl, hlx⟩ := hS
  unfold errDX dropX
  cases hf : findN PX.name (xs.map pxOf) nm with
  | none => exact (rdropx_none A c ts ia ic xs nm w hD hX hf).mono fun _ _ h => h.doc (by decide)
  | some k => exact rdropx_some A c ts ia ic xs nm w hD hX hD.nil hX.nil hn hm hl hlx k hf
end Go.Proofs.YtcgpflkaejbkhaaGreatDoor
namespace Go.Proofs.YtcgpflkaejbkhaaGreatDoor
open Go.RowKit

theorem CellsAt.setBox {W : World} {K : Nat} {A : Option Addr} {ls : List (List Value)} (h : CellsAt W K A ls) (hne : ∀ x ∈ ls, ∃ u, x[0]? = some u ∧ ∀ a n c, u ≠ .slice a n c) {b : Nat} {p1 p4 : Option Addr} {p2 p3 p5 p6 : Nat} {ty : TypeId} (hb : W.heap[b]? = some (.cells #[.slice p1 p2 p3, .slice p4 p5 p6] ty)) (j : Nat) (v : Value) : CellsAt (W.setCell ⟨b, j, none⟩ v) K A ls := by
  cases ls with
  | nil => exact ⟨h.1, Or.inl rfl⟩
  | cons x ls =>
    refine CellsAt.setFar h b j v (fun a ha e => ?_)
    rcases h.2 with h0 | ⟨g, off, h1, h2, h3⟩
    · cases h0
    · rw [ha] at h1
      cases h1
      obtain ⟨u, hu, hs⟩ := hne x (by simp)
      have h4 := (h3 0 x rfl).2 0 u hu
      have e2 : g = b := e
      subst e2
      rw [cell_of_row W g _ _ _ _ hb] at h4
      have hlt := (Array.getElem?_eq_some_iff.1 h4).1
      simp at hlt
      have h5 : off + 0 * K + 0 = 0 ∨ off + 0 * K + 0 = 1 := by omega
      rcases h5 with h5 | h5 <;> rw [h5] at h4 <;> exact hs _ _ _ (Option.some.inj h4).symm
theorem IntsAt.setBox {W : World} {A : Option Addr} {l : List Int} (h : IntsAt W A l) {b : Nat} {p1 p4 : Option Addr} {p2 p3 p5 p6 : Nat} {ty : TypeId} (hb : W.heap[b]? = some (.cells #[.slice p1 p2 p3, .slice p4 p5 p6] ty)) (j : Nat) (v : Value) : IntsAt (W.setCell ⟨b, j, none⟩ v) A l := by
  cases l with
  | nil => exact ⟨h.1, Or.inl rfl⟩
  | cons z l =>
    refine IntsAt.setFar h b j v (fun a ha e => ?_)
    rcases h.2 with h0 | ⟨g, off, h1, h2, h3⟩
    · cases h0
    · rw [ha] at h1
      cases h1
      have h4 := h3 0 z rfl
      have e2 : g = b := e
      subst e2
      rw [cell_of_row W g _ _ _ _ hb] at h4
      have hlt := (Array.getElem?_eq_some_iff.1 h4).1
      simp at hlt
      have h5 : off + 0 = 0 ∨ off + 0 = 1 := by omega
      rcases h5 with h5 | h5 <;> rw [h5] at h4 <;> cases (Option.some.inj h4)
theorem DeepAt.setBox {W : World} {A : Option Addr} {ts : List (Tab × List Col)} (h : DeepAt W A ts) {b : Nat} {p1 p4 : Option Addr} {p2 p3 p5 p6 : Nat} {ty : TypeId} (hb : W.heap[b]? = some (.cells #[.slice p1 p2 p3, .slice p4 p5 p6] ty)) (j : Nat) (v : Value) : DeepAt (W.setCell ⟨b, j, none⟩ v) A ts := by
  refine ⟨CellsAt.setBox h.1 (fun x hx => ?_) hb j v, fun p hp => ⟨CellsAt.setBox (h.2 p hp).1 (fun x hx => ?_) hb j v, (h.2 p hp).2⟩⟩
  · obtain ⟨t, _, rfl⟩ := List.mem_map.1 hx
    exact ⟨_, rfl, fun a n c e => by cases e⟩
  · obtain ⟨t, _, rfl⟩ := List.mem_map.1 hx
    exact ⟨_, rfl, fun a n c e => by cases e⟩
theorem DeepIx.setBox {W : World} {A : Option Addr} {xs : List (Idx × List Int)} (h : DeepIx W A xs) {b : Nat} {p1 p4 : Option Addr} {p2 p3 p5 p6 : Nat} {ty : TypeId} (hb : W.heap[b]? = some (.cells #[.slice p1 p2 p3, .slice p4 p5 p6] ty)) (j : Nat) (v : Value) : DeepIx (W.setCell ⟨b, j, none⟩ v) A xs := by
  refine ⟨CellsAt.setBox h.1 (fun x hx => ?_) hb j v, fun p hp => ⟨IntsAt.setBox (h.2 p hp).1 hb j v, (h.2 p hp).2⟩⟩
  obtain ⟨t, _, rfl⟩ := List.mem_map.1 hx
  exact ⟨_, rfl, fun a n c e => by cases e⟩
/-- the seven boxes of do -/
structure DoK (w : World) (A : Option Addr) (n c : Nat) (ia : Option Addr) (mx ic : Nat) (A2 : Option Addr) (c2 : Nat) (ia2 : Option Addr) (ic2 : Nat) (kind : Int) (t : Tab) (x : Idx) (nm : ByteArray) (p1 : Option Addr) (p2 p3 : Nat) (p4 : Option Addr) (p5 p6 : Nat) (q1 : Option Addr) (q2 q3 : Nat) (q4 : Option Addr) (q5 q6 : Nat) (W : World) : Prop where
  below : Below w.heap.size w W
  b0 : W.heap[w.heap.size]? = some (.cells #[.slice A n c, .slice ia mx ic] 36)
  b1 : W.heap[w.heap.size + 1]? = some (.cells #[.slice A2 n c2, .slice ia2 mx ic2] 36)
  b2 : W.heap[w.heap.size + 1 + 1]? = some (.cells #[.int .i64 kind, .string t.name, .slice t.ca t.cn t.cc, .int .i64 t.root, .int .i64 t.next, .int .i64 t.rows, .string x.name, .string x.table, .slice x.pa x.pn x.pc, .int .i64 x.state, .int .i64 x.root, .int .i64 x.cursor, .string nm] 30)
  b3 : W.heap[w.heap.size + 1 + 1 + 1]? = some (.cells #[.slice none 0 0, .slice none 0 0] 36)
  b4 : W.heap[w.heap.size + 1 + 1 + 1 + 1]? = some (.cells #[.slice none 0 0, .slice none 0 0] 36)
  b5 : W.heap[w.heap.size + 1 + 1 + 1 + 1 + 1]? = some (.cells #[.slice p1 p2 p3, .slice p4 p5 p6] 36)
  b6 : W.heap[w.heap.size + 1 + 1 + 1 + 1 + 1 + 1]? = some (.cells #[.slice q1 q2 q3, .slice q4 q5 q6] 36)
theorem DoK.keep {w : World} {A : Option Addr} {n c : Nat} {ia : Option Addr} {mx ic : Nat} {A2 : Option Addr} {c2 : Nat} {ia2 : Option Addr} {ic2 : Nat} {kind : Int} {t : Tab} {x : Idx} {nm : ByteArray} {p1 : Option Addr} {p2 p3 : Nat} {p4 : Option Addr} {p5 p6 : Nat} {q1 : Option Addr} {q2 q3 : Nat} {q4 : Option Addr} {q5 q6 : Nat} {W W' : World} (h : DoK w A n c ia mx ic A2 c2 ia2 ic2 kind t x nm p1 p2 p3 p4 p5 p6 q1 q2 q3 q4 q5 q6 W) (hB : Below W.heap.size W W') : DoK w A n c ia mx ic A2 c2 ia2 ic2 kind t x nm p1 p2 p3 p4 p5 p6 q1 q2 q3 q4 q5 q6 W' :=
  ⟨h.below.trans (hB.mono h.below.size), (hB.block _ (heap_lt h.b0)).trans h.b0, (hB.block _ (heap_lt h.b1)).trans h.b1, (hB.block _ (heap_lt h.b2)).trans h.b2, (hB.block _ (heap_lt h.b3)).trans h.b3, (hB.block _ (heap_lt h.b4)).trans h.b4, (hB.block _ (heap_lt h.b5)).trans h.b5, (hB.block _ (heap_lt h.b6)).trans h.b6⟩
theorem box_next {W W' : World} {o : Obj} {k : Nat} (h : W' = W.alloc o) (hs : W.heap.size = k) : W'.heap.size = k + 1 ∧ W'.heap[k]? = some o ∧ (∀ (j : Nat) (x : Obj), W.heap[j]? = some x → W'.heap[j]? = some x) := by
  subst h hs
  exact ⟨World.size_alloc _ _, heap_alloc_new _ _, fun j x hx => (heap_alloc_old _ _ (heap_lt hx)).trans hx⟩
theorem DoK.start (w : World) (A : Option Addr) (n c : Nat) (ia : Option Addr) (mx ic : Nat) (A2 : Option Addr) (c2 : Nat) (ia2 : Option Addr) (ic2 : Nat) (kind : Int) (t : Tab) (x : Idx) (nm : ByteArray) : DoK w A n c ia mx ic A2 c2 ia2 ic2 kind t x nm none 0 0 none 0 0 none 0 0 none 0 0 (((((((w.alloc (.cells #[.slice A n c, .slice ia mx ic] 36)).alloc (.cells #[.slice A2 n c2, .slice ia2 mx ic2] 36)).alloc (.cells #[.int .i64 kind, .string t.name, .slice t.ca t.cn t.cc, .int .i64 t.root, .int .i64 t.next, .int .i64 t.rows, .string x.name, .string x.table, .slice x.pa x.pn x.pc, .int .i64 x.state, .int .i64 x.root, .int .i64 x.cursor, .string nm] 30)).alloc (.cells #[.slice none 0 0, .slice none 0 0] 36)).alloc (.cells #[.slice none 0 0, .slice none 0 0] 36)).alloc (.cells #[.slice none 0 0, .slice none 0 0] 36)).alloc (.cells #[.slice none 0 0, .slice none 0 0] 36)) ∧ w.heap.size + 7 ≤ (((((((w.alloc (.cells #[.slice A n c, .slice ia mx ic] 36)).alloc (.cells #[.slice A2 n c2, .slice ia2 mx ic2] 36)).alloc (.cells #[.int .i64 kind, .string t.name, .slice t.ca t.cn t.cc, .int .i64 t.root, .int .i64 t.next, .int .i64 t.rows, .string x.name, .string x.table, .slice x.pa x.pn x.pc, .int .i64 x.state, .int .i64 x.root, .int .i64 x.cursor, .string nm] 30)).alloc (.cells #[.slice none 0 0, .slice none 0 0] 36)).alloc (.cells #[.slice none 0 0, .slice none 0 0] 36)).alloc (.cells #[.slice none 0 0, .slice none 0 0] 36)).alloc (.cells #[.slice none 0 0, .slice none 0 0] 36)).heap.size := by
  obtain ⟨W0, h0⟩ : ∃ W', W' = w.alloc (.cells #[.slice A n c, .slice ia mx ic] 36) := ⟨_, rfl⟩
  rw [← h0]
  obtain ⟨s0, a0, k0⟩ := box_next h0 rfl
  have B0 : Below w.heap.size w W0 := by rw [h0]; exact below1 w _
  obtain ⟨W1, h1⟩ : ∃ W', W' = W0.alloc (.cells #[.slice A2 n c2, .slice ia2 mx ic2] 36) := ⟨_, rfl⟩
  rw [← h1]
  obtain ⟨s1, a1, k1⟩ := box_next h1 s0
  have B1 : Below w.heap.size w W1 := by rw [h1]; exact B0.alloc B0.size _
  obtain ⟨W2, h2⟩ : ∃ W', W' = W1.alloc (.cells #[.int .i64 kind, .string t.name, .slice t.ca t.cn t.cc, .int .i64 t.root, .int .i64 t.next, .int .i64 t.rows, .string x.name, .string x.table, .slice x.pa x.pn x.pc, .int .i64 x.state, .int .i64 x.root, .int .i64 x.cursor, .string nm] 30) := ⟨_, rfl⟩
  rw [← h2]
  obtain ⟨s2, a2, k2⟩ := box_next h2 s1
  have B2 : Below w.heap.size w W2 := by rw [h2]; exact B1.alloc B1.size _
  obtain ⟨W3, h3⟩ : ∃ W', W' = W2.alloc (.cells #[.slice none 0 0, .slice none 0 0] 36) := ⟨_, rfl⟩
  rw [← h3]
  obtain ⟨s3, a3, k3⟩ := box_next h3 s2
  have B3 : Below w.heap.size w W3 := by rw [h3]; exact B2.alloc B2.size _
  obtain ⟨W4, h4⟩ : ∃ W', W' = W3.alloc (.cells #[.slice none 0 0, .slice none 0 0] 36) := ⟨_, rfl⟩
  rw [← h4]
  obtain ⟨s4, a4, k4⟩ := box_next h4 s3
  have B4 : Below w.heap.size w W4 := by rw [h4]; exact B3.alloc B3.size _
  obtain ⟨W5, h5⟩ : ∃ W', W' = W4.alloc (.cells #[.slice none 0 0, .slice none 0 0] 36) := ⟨_, rfl⟩
  rw [← h5]
  obtain ⟨s5, a5, k5⟩ := box_next h5 s4
  have B5 : Below w.heap.size w W5 := by rw [h5]; exact B4.alloc B4.size _
  obtain ⟨W6, h6⟩ : ∃ W', W' = W5.alloc (.cells #[.slice none 0 0, .slice none 0 0] 36) := ⟨_, rfl⟩
  rw [← h6]
  obtain ⟨s6, a6, k6⟩ := box_next h6 s5
  have B6 : Below w.heap.size w W6 := by rw [h6]; exact B5.alloc B5.size _
  exact ⟨⟨B6, k6 _ _ (k5 _ _ (k4 _ _ (k3 _ _ (k2 _ _ (k1 _ _ (a0)))))), k6 _ _ (k5 _ _ (k4 _ _ (k3 _ _ (k2 _ _ (a1))))), k6 _ _ (k5 _ _ (k4 _ _ (k3 _ _ (a2)))), k6 _ _ (k5 _ _ (k4 _ _ (a3))), k6 _ _ (k5 _ _ (a4)), k6 _ _ (a5), a6⟩, by omega⟩
theorem DoK.setT {w : World} {A : Option Addr} {n c : Nat} {ia : Option Addr} {mx ic : Nat} {A2 : Option Addr} {c2 : Nat} {ia2 : Option Addr} {ic2 : Nat} {kind : Int} {t : Tab} {x : Idx} {nm : ByteArray} {p1 : Option Addr} {p2 p3 : Nat} {p4 : Option Addr} {p5 p6 : Nat} {q1 : Option Addr} {q2 q3 : Nat} {q4 : Option Addr} {q5 q6 : Nat} {W : World} (h : DoK w A n c ia mx ic A2 c2 ia2 ic2 kind t x nm p1 p2 p3 p4 p5 p6 q1 q2 q3 q4 q5 q6 W) (r1 : Option Addr) (r2 r3 : Nat) (r4 : Option Addr) (r5 r6 : Nat) : DoK w A n c ia mx ic A2 c2 ia2 ic2 kind t x nm r1 r2 r3 r4 r5 r6 q1 q2 q3 q4 q5 q6 ((W.setCell ⟨w.heap.size + 1 + 1 + 1 + 1 + 1, 0, none⟩ (.slice r1 r2 r3)).setCell ⟨w.heap.size + 1 + 1 + 1 + 1 + 1, 1, none⟩ (.slice r4 r5 r6)) := by
  refine ⟨(h.below.setCell (p := ⟨w.heap.size + 1 + 1 + 1 + 1 + 1, 0, none⟩) (by show w.heap.size ≤ w.heap.size + 1 + 1 + 1 + 1 + 1; omega) _).setCell (p := ⟨w.heap.size + 1 + 1 + 1 + 1 + 1, 1, none⟩) (by show w.heap.size ≤ w.heap.size + 1 + 1 + 1 + 1 + 1; omega) _, ?_, ?_, ?_, ?_, ?_, ?_, ?_⟩
  · rw [heap_setFar _ (by omega), heap_setFar _ (by omega)]; exact h.b0
  · rw [heap_setFar _ (by omega), heap_setFar _ (by omega)]; exact h.b1
  · rw [heap_setFar _ (by omega), heap_setFar _ (by omega)]; exact h.b2
  · rw [heap_setFar _ (by omega), heap_setFar _ (by omega)]; exact h.b3
  · rw [heap_setFar _ (by omega), heap_setFar _ (by omega)]; exact h.b4
  · have h1 := setCell_eq_setRow W (w.heap.size + 1 + 1 + 1 + 1 + 1) 0 _ 36 _ (.slice r1 r2 r3) h.b5
    have h2 : (W.setCell ⟨w.heap.size + 1 + 1 + 1 + 1 + 1, 0, none⟩ (.slice r1 r2 r3)).heap[w.heap.size + 1 + 1 + 1 + 1 + 1]? = some (.cells #[.slice r1 r2 r3, .slice p4 p5 p6] 36) := by rw [h1]; exact setRow_heap W _ _ _ 36 _ h.b5
    rw [setCell_eq_setRow _ _ 1 _ 36 _ _ h2]
    exact setRow_heap _ _ _ _ 36 _ h2
  · rw [heap_setFar _ (by omega), heap_setFar _ (by omega)]; exact h.b6
theorem DoK.setY {w : World} {A : Option Addr} {n c : Nat} {ia : Option Addr} {mx ic : Nat} {A2 : Option Addr} {c2 : Nat} {ia2 : Option Addr} {ic2 : Nat} {kind : Int} {t : Tab} {x : Idx} {nm : ByteArray} {p1 : Option Addr} {p2 p3 : Nat} {p4 : Option Addr} {p5 p6 : Nat} {q1 : Option Addr} {q2 q3 : Nat} {q4 : Option Addr} {q5 q6 : Nat} {W : World} (h : DoK w A n c ia mx ic A2 c2 ia2 ic2 kind t x nm p1 p2 p3 p4 p5 p6 q1 q2 q3 q4 q5 q6 W) (r1 : Option Addr) (r2 r3 : Nat) (r4 : Option Addr) (r5 r6 : Nat) : DoK w A n c ia mx ic A2 c2 ia2 ic2 kind t x nm p1 p2 p3 p4 p5 p6 r1 r2 r3 r4 r5 r6 ((W.setCell ⟨w.heap.size + 1 + 1 + 1 + 1 + 1 + 1, 0, none⟩ (.slice r1 r2 r3)).setCell ⟨w.heap.size + 1 + 1 + 1 + 1 + 1 + 1, 1, none⟩ (.slice r4 r5 r6)) := by
  refine ⟨(h.below.setCell (p := ⟨w.heap.size + 1 + 1 + 1 + 1 + 1 + 1, 0, none⟩) (by show w.heap.size ≤ w.heap.size + 1 + 1 + 1 + 1 + 1 + 1; omega) _).setCell (p := ⟨w.heap.size + 1 + 1 + 1 + 1 + 1 + 1, 1, none⟩) (by show w.heap.size ≤ w.heap.size + 1 + 1 + 1 + 1 + 1 + 1; omega) _, ?_, ?_, ?_, ?_, ?_, ?_, ?_⟩
  · rw [heap_setFar _ (by omega), heap_setFar _ (by omega)]; exact h.b0
  · rw [heap_setFar _ (by omega), heap_setFar _ (by omega)]; exact h.b1
  · rw [heap_setFar _ (by omega), heap_setFar _ (by omega)]; exact h.b2
  · rw [heap_setFar _ (by omega), heap_setFar _ (by omega)]; exact h.b3
  · rw [heap_setFar _ (by omega), heap_setFar _ (by omega)]; exact h.b4
  · rw [heap_setFar _ (by omega), heap_setFar _ (by omega)]; exact h.b5
  · have h1 := setCell_eq_setRow W (w.heap.size + 1 + 1 + 1 + 1 + 1 + 1) 0 _ 36 _ (.slice r1 r2 r3) h.b6
    have h2 : (W.setCell ⟨w.heap.size + 1 + 1 + 1 + 1 + 1 + 1, 0, none⟩ (.slice r1 r2 r3)).heap[w.heap.size + 1 + 1 + 1 + 1 + 1 + 1]? = some (.cells #[.slice r1 r2 r3, .slice q4 q5 q6] 36) := by rw [h1]; exact setRow_heap W _ _ _ 36 _ h.b6
    rw [setCell_eq_setRow _ _ 1 _ 36 _ _ h2]
    exact setRow_heap _ _ _ _ 36 _ h2
theorem DoK.done {w : World} {A : Option Addr} {n c : Nat} {ia : Option Addr} {mx ic : Nat} {A2 : Option Addr} {c2 : Nat} {ia2 : Option Addr} {ic2 : Nat} {kind : Int} {t : Tab} {x : Idx} {nm : ByteArray} {p1 : Option Addr} {p2 p3 : Nat} {p4 : Option Addr} {p5 p6 : Nat} {q1 : Option Addr} {q2 q3 : Nat} {q4 : Option Addr} {q5 q6 : Nat} {W : World} (h : DoK w A n c ia mx ic A2 c2 ia2 ic2 kind t x nm p1 p2 p3 p4 p5 p6 q1 q2 q3 q4 q5 q6 W) (a1 a2 a3 a4 : Value) : Below w.heap.size w ((((W.setCell ⟨w.heap.size + 1 + 1 + 1, 0, none⟩ a1).setCell ⟨w.heap.size + 1 + 1 + 1, 1, none⟩ a2).setCell ⟨w.heap.size + 1 + 1 + 1 + 1, 0, none⟩ a3).setCell ⟨w.heap.size + 1 + 1 + 1 + 1, 1, none⟩ a4) :=
  (((h.below.setCell (p := ⟨w.heap.size + 1 + 1 + 1, 0, none⟩) (by show w.heap.size ≤ w.heap.size + 1 + 1 + 1; omega) _).setCell (p := ⟨w.heap.size + 1 + 1 + 1, 1, none⟩) (by show w.heap.size ≤ w.heap.size + 1 + 1 + 1; omega) _).setCell (p := ⟨w.heap.size + 1 + 1 + 1 + 1, 0, none⟩) (by show w.heap.size ≤ w.heap.size + 1 + 1 + 1 + 1; omega) _).setCell (p := ⟨w.heap.size + 1 + 1 + 1 + 1, 1, none⟩) (by show w.heap.size ≤ w.heap.size + 1 + 1 + 1 + 1; omega) _
theorem DoK.done2 {w : World} {A : Option Addr} {n c : Nat} {ia : Option Addr} {mx ic : Nat} {A2 : Option Addr} {c2 : Nat} {ia2 : Option Addr} {ic2 : Nat} {kind : Int} {t : Tab} {x : Idx} {nm : ByteArray} {p1 : Option Addr} {p2 p3 : Nat} {p4 : Option Addr} {p5 p6 : Nat} {q1 : Option Addr} {q2 q3 : Nat} {q4 : Option Addr} {q5 q6 : Nat} {W : World} (h : DoK w A n c ia mx ic A2 c2 ia2 ic2 kind t x nm p1 p2 p3 p4 p5 p6 q1 q2 q3 q4 q5 q6 W) (a1 a2 a3 a4 : Value) : Below w.heap.size w ((((W.setCell ⟨w.heap.size + 1 + 1 + 1 + 1, 0, none⟩ a1).setCell ⟨w.heap.size + 1 + 1 + 1 + 1, 1, none⟩ a2).setCell ⟨w.heap.size + 1 + 1 + 1, 0, none⟩ a3).setCell ⟨w.heap.size + 1 + 1 + 1, 1, none⟩ a4) :=
  (((h.below.setCell (p := ⟨w.heap.size + 1 + 1 + 1 + 1, 0, none⟩) (by show w.heap.size ≤ w.heap.size + 1 + 1 + 1 + 1; omega) _).setCell (p := ⟨w.heap.size + 1 + 1 + 1 + 1, 1, none⟩) (by show w.heap.size ≤ w.heap.size + 1 + 1 + 1 + 1; omega) _).setCell (p := ⟨w.heap.size + 1 + 1 + 1, 0, none⟩) (by show w.heap.size ≤ w.heap.size + 1 + 1 + 1; omega) _).setCell (p := ⟨w.heap.size + 1 + 1 + 1, 1, none⟩) (by show w.heap.size ≤ w.heap.size + 1 + 1 + 1; omega) _
theorem far2 {W : World} {g b : Nat} {x : Obj} {u v : Value} (h : W.heap[g]? = some x) (hne : g ≠ b) : ((W.setCell ⟨b, 0, none⟩ u).setCell ⟨b, 1, none⟩ v).heap[g]? = some x := by
  rw [heap_setFar _ hne, heap_setFar _ hne]; exact h
/-- which of the four things an operation is -/
def opR (kind : Int) : Int := (IntKind.u64.wrap kind).tmod 4
def opErr (kind : Int) (T : List PT) (X : List PX) (t : PT) (x : PX) (nm : ByteArray) : Int := if opR kind = 0 then errT T t else if opR kind = 1 then errX T X x else if opR kind = 2 then errD T nm else errDX X nm
def opT (kind : Int) (T : List PT) (t : PT) (nm : ByteArray) : List PT := if opR kind = 0 then putT T t else if opR kind = 1 then T else if opR kind = 2 then dropT T nm else T
def opX (kind : Int) (X : List PX) (x : PX) (nm : ByteArray) : List PX := if opR kind = 0 then X else if opR kind = 1 then putX X x else if opR kind = 2 then dropTX X nm else dropX X nm
/-- a schema that is read, and what it reads as -/
def ReadP (w : World) (A ia : Option Addr) (ts : List (Tab × List Col)) (xs : List (Idx × List Int)) : Prop := DeepAt w A ts ∧ DeepIx w ia xs ∧ (∀ p ∈ ts, p.2.length ≤ 1000) ∧ (∀ p ∈ xs, p.2.length ≤ 1000)
theorem ReadP.keep {w w' : World} {A ia : Option Addr} {ts : List (Tab × List Col)} {xs : List (Idx × List Int)} (h : ReadP w A ia ts xs) (hB : Below w.heap.size w w') : ReadP w' A ia ts xs := ⟨h.1.keep hB, h.2.1.keep hB, h.2.2⟩
theorem ReadP.setBox {W : World} {A ia : Option Addr} {ts : List (Tab × List Col)} {xs : List (Idx × List Int)} (h : ReadP W A ia ts xs) {b : Nat} {p1 p4 : Option Addr} {p2 p3 p5 p6 : Nat} {ty : TypeId} (hb : W.heap[b]? = some (.cells #[.slice p1 p2 p3, .slice p4 p5 p6] ty)) (r1 : Option Addr) (r2 r3 : Nat) (v : Value) : ReadP ((W.setCell ⟨b, 0, none⟩ (.slice r1 r2 r3)).setCell ⟨b, 1, none⟩ v) A ia ts xs := by
  have h2 : (W.setCell ⟨b, 0, none⟩ (.slice r1 r2 r3)).heap[b]? = some (.cells #[.slice r1 r2 r3, .slice p4 p5 p6] ty) := by
    rw [setCell_eq_setRow W b 0 _ ty _ _ hb]
    exact setRow_heap W _ _ _ ty _ hb
  exact ⟨(h.1.setBox hb 0 _).setBox h2 1 _, (h.2.1.setBox hb 0 _).setBox h2 1 _, h.2.2⟩
theorem OwnS.readP {base h n m c ic : Nat} {A ia : Option Addr} {ts : List (Tab × List Col)} {xs : List (Idx × List Int)} {W : World} (hS : OwnS base h (.slice A n c) (.slice ia m ic) ts xs W) (hn : n = ts.length) (hm : m = xs.length) (h1 : ts.length ≤ 1000) (h2 : xs.length ≤ 1000) : ReadP W A ia ts xs :=
  ⟨hS.deepT hn h1, hS.deepX hm h2, fun p hp => (hS.cols p hp).2.2.2.2.1, fun p hp => (hS.places p hp).2.2.2.2.1⟩
/-- what do answers: the two schemas with what was done, or as they were handed in -/
def DoP (w : World) (S1 S2 : Value) (er : Int) (T : List PT) (X : List PX) (e : Ending) (w' : World) : Prop := Below w.heap.size w w' ∧
  ((er ≠ 0 ∧ e = .returned (.tuple #[S1, S2, .bool true])) ∨
   (er = 0 ∧ ∃ (A ia A2 ia2 : Option Addr) (c ic c2 ic2 h : Nat) (ts : List (Tab × List Col)) (xs : List (Idx × List Int)) (ts2 : List (Tab × List Col)) (xs2 : List (Idx × List Int)), e = .returned (.tuple #[.agg #[.slice A ts.length c, .slice ia xs.length ic], .agg #[.slice A2 ts2.length c2, .slice ia2 xs2.length ic2], .bool true]) ∧
     OwnS w.heap.size h (.slice A ts.length c) (.slice ia xs.length ic) ts xs w' ∧ ReadP w' A2 ia2 ts2 xs2 ∧ ts.map ptOf = T ∧ xs.map pxOf = X ∧ ts2.map ptOf = T ∧ xs2.map pxOf = X))

set_option maxRecDepth 100000 in
set_option maxHeartbeats 16000000 in
theorem do_put (m : Int) (gt : Nat → Nat) (ht : ∀ j, j < 23 → finD (Ieee.double.read (gt j)) = true) (A : Option Addr) (c : Nat) (ts : List (Tab × List Col)) (ia : Option Addr) (ic : Nat) (xs : List (Idx × List Int)) (A2 : Option Addr) (c2 : Nat) (ts2 : List (Tab × List Col)) (ia2 : Option Addr) (ic2 : Nat) (xs2 : List (Idx × List Int)) (kind : Int) (t : Tab) (cl : List Col) (x : Idx) (xl : List Int) (nm : ByteArray) (w : World) (hG : Glob m gt w)
    (hS : ReadS w A ia ts xs) (hS2 : ReadS w A2 ia2 ts2 xs2) (hT : ts2.map ptOf = ts.map ptOf) (hX : xs2.map pxOf = xs.map pxOf) (ht1 : ReadTab w t cl) (_hx1 : ReadIdx w x xl) (hT9 : (putT (ts.map ptOf) (ptOf (t, cl))).length ≤ 1000) (hX9 : (xs.map pxOf).length ≤ 1000) (hr : opR kind = 0) :
    Calls Tryz.prog 9 #[.agg #[.slice A ts.length c, .slice ia xs.length ic], .agg #[.slice A2 ts2.length c2, .slice ia2 xs2.length ic2], .agg #[.int .i64 kind, .string t.name, .slice t.ca t.cn t.cc, .int .i64 t.root, .int .i64 t.next, .int .i64 t.rows, .string x.name, .string x.table, .slice x.pa x.pn x.pc, .int .i64 x.state, .int .i64 x.root, .int .i64 x.cursor, .string nm]] w (DoP w (.agg #[.slice A ts.length c, .slice ia xs.length ic]) (.agg #[.slice A2 ts2.length c2, .slice ia2 xs2.length ic2]) (errT (ts.map ptOf) (ptOf (t, cl))) (putT (ts.map ptOf) (ptOf (t, cl))) (xs.map pxOf)) := by
  have hlt : ts2.length = ts.length := by have := congrArg List.length hT; rwa [List.length_map, List.length_map] at this
  have hlx : xs2.length = xs.length := by have := congrArg List.length hX; rwa [List.length_map, List.length_map] at this
  have HST := Lib.hid (DoK.start w A ts.length c ia xs.length ic A2 c2 ia2 ic2 kind t x nm)
  have HP := Lib.hid (show ∀ W, Below w.heap.size w W → Calls Tryz.prog 27 #[.agg #[.slice A ts.length c, .slice ia xs.length ic], .agg #[.string t.name, .slice t.ca t.cn t.cc, .int .i64 t.root, .int .i64 t.next, .int .i64 t.rows]] W (OutP W (errT (ts.map ptOf) (ptOf (t, cl))) (putT (ts.map ptOf) (ptOf (t, cl))) (xs.map pxOf)) from fun W hB => put_all m gt ht A c ts ia ic xs t cl W (hG.keep hB) (hS.keep hB) (ht1.keep hB))
  have HR := Lib.hid (show ∀ W, Below w.heap.size w W → Calls Tryz.prog 29 #[.agg #[.slice A2 ts.length c2, .slice ia2 xs.length ic2], .agg #[.string t.name, .slice t.ca t.cn t.cc, .int .i64 t.root, .int .i64 t.next, .int .i64 t.rows]] W (DocP W (errT (ts.map ptOf) (ptOf (t, cl))) (putT (ts.map ptOf) (ptOf (t, cl))) (xs.map pxOf)) from fun W hB => by
    have h := rput_all m gt ht A2 c2 ts2 ia2 ic2 xs2 t cl W (hG.keep hB) (hS2.keep hB) (ht1.keep hB)
    rw [hT, hX, hlt, hlx] at h
    exact h)
  have HSM := Lib.hid (show ∀ W, Below w.heap.size w W → Calls Tryz.prog 11 #[.agg #[.slice A ts.length c, .slice ia xs.length ic], .agg #[.slice A2 ts.length c2, .slice ia2 xs.length ic2]] W (RetV (.bool true) W) from fun W hB => by
    have h := same_eq A c ts ia ic xs A2 c2 ts2 ia2 ic2 xs2 W (hS.1.keep hB) (hS.2.1.keep hB) (hS2.1.keep hB) (hS2.2.1.keep hB) hT.symm hX.symm
    rw [hlt, hlx] at h
    exact h)
  have HSZ := Lib.hid (show ∀ W, Calls Tryz.prog 11 #[.agg #[.slice none 0 0, .slice none 0 0], .agg #[.slice none 0 0, .slice none 0 0]] W (RetV (.bool true) W) from fun W =>
    same_eq none 0 [] none 0 [] none 0 [] none 0 [] W ⟨CellsAt.nil_at _ _ _, fun p hp => by cases hp⟩ ⟨CellsAt.nil_at _ _ _, fun p hp => by cases hp⟩ ⟨CellsAt.nil_at _ _ _, fun p hp => by cases hp⟩ ⟨CellsAt.nil_at _ _ _, fun p hp => by cases hp⟩ rfl rfl)
  have HT9 := Lib.hid hT9
  have HX9 := Lib.hid hX9
  rw [hlt, hlx]
  generalize (errT (ts.map ptOf) (ptOf (t, cl))) = er at HP HR ⊢
  generalize (putT (ts.map ptOf) (ptOf (t, cl))) = T at HP HR HT9 ⊢
  generalize (xs.map pxOf) = X at HP HR HX9 ⊢
  generalize ts.length = n at HST HP HR HSM ⊢
  generalize xs.length = mx at HST HP HR HSM ⊢
  have g0 : ((IntKind.u64.wrap kind).tmod 4 == 0) = true := beq_iff_eq.2 hr
  clear hr
  clear hG hS hS2 hT hX ht1 _hx1 ht hlt hlx hT9 hX9
  obtain ⟨tn, ta, tl, tc, tr, tx, tw⟩ := t
  obtain ⟨un, ut, ua, ul, uc, us, ur, ux⟩ := x
  dsimp only at HST HP HR ⊢
  go_enter Tryz.func9, Tryz.ntmps9
  go_wp2_with (first
    | (go_at_call 27; (with_reducible refine (HP.out _ HST.out.1.below).mono ?_); rintro e w1 ⟨hB1, hO⟩
       have HK1 := Lib.hid (HST.out.1.keep hB1)
       have zb50 := frozen_of_row _ _ 0 _ _ HK1.out.b5
       have zb51 := frozen_of_row _ _ 1 _ _ HK1.out.b5
       have t50 := cell_of_row _ _ 0 _ _ _ HK1.out.b5
       have t51 := cell_of_row _ _ 1 _ _ _ HK1.out.b5
       rcases hO with ⟨h0, A5, ia5, c5, ic5, hh, ts5, xs5, rfl, hS5, hT5, hX5⟩ | ⟨hne, rfl⟩
       all_goals first
       | (have HZ0 := Lib.hid h0
          have HL5 := Lib.hid (show ts5.length ≤ 1000 ∧ xs5.length ≤ 1000 by
            have h1 := HT9.out
            have h2 := HX9.out
            rw [← hT5, List.length_map] at h1
            rw [← hX5, List.length_map] at h2
            exact ⟨h1, h2⟩)
          have HO1 := Lib.hid (hS5.le HST.out.2)
          have HT5 := Lib.hid hT5
          have HX5 := Lib.hid hX5
          generalize hn5 : ts5.length = n5 at HO1 HL5 ⊢
          generalize hm5 : xs5.length = m5 at HO1 HL5 ⊢
          have HN5 := Lib.hid hn5
          have HM5 := Lib.hid hm5
          have HK2 := Lib.hid (HK1.out.setT A5 n5 c5 ia5 m5 ic5)
          have HO2 := Lib.hid ((HO1.out.box (w.heap.size + 1 + 1 + 1 + 1 + 1) 0 (.slice A5 n5 c5) (Or.inl (by omega))).box (w.heap.size + 1 + 1 + 1 + 1 + 1) 1 (.slice ia5 m5 ic5) (Or.inl (by omega)))
          clear hB1 hS5 hT5 hX5 hn5 hm5 h0
          have s0 := cell_of_row _ _ 0 _ _ _ HK2.out.b0
          have s1 := cell_of_row _ _ 1 _ _ _ HK2.out.b0
          have x0 := cell_of_row _ _ 0 _ _ _ HK2.out.b1
          have x1 := cell_of_row _ _ 1 _ _ _ HK2.out.b1
          have o0 := cell_of_row _ _ 0 _ _ _ HK2.out.b2
          have o1 := cell_of_row _ _ 1 _ _ _ HK2.out.b2
          have o2 := cell_of_row _ _ 2 _ _ _ HK2.out.b2
          have o3 := cell_of_row _ _ 3 _ _ _ HK2.out.b2
          have o4 := cell_of_row _ _ 4 _ _ _ HK2.out.b2
          have o5 := cell_of_row _ _ 5 _ _ _ HK2.out.b2
          have o6 := cell_of_row _ _ 6 _ _ _ HK2.out.b2
          have o7 := cell_of_row _ _ 7 _ _ _ HK2.out.b2
          have o8 := cell_of_row _ _ 8 _ _ _ HK2.out.b2
          have o9 := cell_of_row _ _ 9 _ _ _ HK2.out.b2
          have o10 := cell_of_row _ _ 10 _ _ _ HK2.out.b2
          have o11 := cell_of_row _ _ 11 _ _ _ HK2.out.b2
          have o12 := cell_of_row _ _ 12 _ _ _ HK2.out.b2)
       | (have HNE := Lib.hid hne
          have HK2 := Lib.hid (HK1.out.setT none 0 0 none 0 0)
          clear hB1 hne
          have s0 := cell_of_row _ _ 0 _ _ _ HK2.out.b0
          have s1 := cell_of_row _ _ 1 _ _ _ HK2.out.b0
          have x0 := cell_of_row _ _ 0 _ _ _ HK2.out.b1
          have x1 := cell_of_row _ _ 1 _ _ _ HK2.out.b1
          have o0 := cell_of_row _ _ 0 _ _ _ HK2.out.b2
          have o1 := cell_of_row _ _ 1 _ _ _ HK2.out.b2
          have o2 := cell_of_row _ _ 2 _ _ _ HK2.out.b2
          have o3 := cell_of_row _ _ 3 _ _ _ HK2.out.b2
          have o4 := cell_of_row _ _ 4 _ _ _ HK2.out.b2
          have o5 := cell_of_row _ _ 5 _ _ _ HK2.out.b2
          have o6 := cell_of_row _ _ 6 _ _ _ HK2.out.b2
          have o7 := cell_of_row _ _ 7 _ _ _ HK2.out.b2
          have o8 := cell_of_row _ _ 8 _ _ _ HK2.out.b2
          have o9 := cell_of_row _ _ 9 _ _ _ HK2.out.b2
          have o10 := cell_of_row _ _ 10 _ _ _ HK2.out.b2
          have o11 := cell_of_row _ _ 11 _ _ _ HK2.out.b2
          have o12 := cell_of_row _ _ 12 _ _ _ HK2.out.b2))
    | (go_at_call 29; (with_reducible refine (HR.out _ HK2.out.below).mono ?_); rintro e w3 ⟨hB3, hO⟩
       have HK3 := Lib.hid (HK2.out.keep hB3)
       have zb60 := frozen_of_row _ _ 0 _ _ HK3.out.b6
       have zb61 := frozen_of_row _ _ 1 _ _ HK3.out.b6
       have t60 := cell_of_row _ _ 0 _ _ _ HK3.out.b6
       have t61 := cell_of_row _ _ 1 _ _ _ HK3.out.b6
       first
       | (have hz := HZ0.out
          rcases hO with ⟨_, A6, ia6, c6, ic6, ts6, xs6, rfl, hD6, hI6, _, _, hl6, hx6, hT6, hX6⟩ | ⟨hne, _⟩
          all_goals first
          | exact absurd hz hne
          | (have HO3 := Lib.hid (HO2.out.keep hB3)
             have HR3 := Lib.hid (show ReadP w3 A6 ia6 ts6 xs6 from ⟨hD6, hI6, hl6, hx6⟩)
             have hln : ts6.length = n5 := by
               have h1 := congrArg List.length (hT6.trans HT5.out.symm)
               rw [List.length_map, List.length_map, HN5.out] at h1
               exact h1
             have hlm : xs6.length = m5 := by
               have h1 := congrArg List.length (hX6.trans HX5.out.symm)
               rw [List.length_map, List.length_map, HM5.out] at h1
               exact h1
             rw [hln, hlm]
             have HLN6 := Lib.hid hln
             have HLM6 := Lib.hid hlm
             have HT6 := Lib.hid hT6
             have HX6 := Lib.hid hX6
             have HK4 := Lib.hid (HK3.out.setY A6 n5 c6 ia6 m5 ic6)
             have HO4 := Lib.hid ((HO3.out.box (w.heap.size + 1 + 1 + 1 + 1 + 1 + 1) 0 (.slice A6 n5 c6) (Or.inl (by omega))).box (w.heap.size + 1 + 1 + 1 + 1 + 1 + 1) 1 (.slice ia6 m5 ic6) (Or.inl (by omega)))
             have HR4 := Lib.hid (HR3.out.setBox HK3.out.b6 A6 n5 c6 (.slice ia6 m5 ic6))
             have HSY := Lib.hid (show ∀ W, Below _ _ W → Calls Tryz.prog 11 #[.agg #[.slice A5 n5 c5, .slice ia5 m5 ic5], .agg #[.slice A6 n5 c6, .slice ia6 m5 ic6]] W (RetV (.bool true) W) from fun W hB => by
               have hr1 := (HO4.out.readP HN5.out.symm HM5.out.symm (by rw [HN5.out]; exact HL5.out.1) (by rw [HM5.out]; exact HL5.out.2)).keep hB
               have hr2 := HR4.out.keep hB
               have h := same_eq A5 c5 ts5 ia5 ic5 xs5 A6 c6 ts6 ia6 ic6 xs6 W hr1.1 hr1.2.1 hr2.1 hr2.2.1 (HT5.out.trans HT6.out.symm) (HX5.out.trans HX6.out.symm)
               rw [HN5.out, HM5.out, HLN6.out, HLM6.out] at h
               exact h)
             clear hD6 hI6 hl6 hx6 hT6 hX6 hln hlm hB3 hz
             have s0 := cell_of_row _ _ 0 _ _ _ HK4.out.b0
             have s1 := cell_of_row _ _ 1 _ _ _ HK4.out.b0
             have x0 := cell_of_row _ _ 0 _ _ _ HK4.out.b1
             have x1 := cell_of_row _ _ 1 _ _ _ HK4.out.b1
             have t0 := cell_of_row _ _ 0 _ _ _ HK4.out.b5
             have t1 := cell_of_row _ _ 1 _ _ _ HK4.out.b5
             have y0 := cell_of_row _ _ 0 _ _ _ HK4.out.b6
             have y1 := cell_of_row _ _ 1 _ _ _ HK4.out.b6))
       | (have hn := HNE.out
          rcases hO with ⟨hz, _⟩ | ⟨_, rfl⟩
          all_goals first
          | exact absurd hz hn
          | (have HK4 := Lib.hid (HK3.out.setY none 0 0 none 0 0)
             have hne2 : (er == 0) = false := beq_eq_false_iff_ne.2 hn
             clear hn hB3
             have s0 := cell_of_row _ _ 0 _ _ _ HK4.out.b0
             have s1 := cell_of_row _ _ 1 _ _ _ HK4.out.b0
             have x0 := cell_of_row _ _ 0 _ _ _ HK4.out.b1
             have x1 := cell_of_row _ _ 1 _ _ _ HK4.out.b1
             have t0 := cell_of_row _ _ 0 _ _ _ HK4.out.b5
             have t1 := cell_of_row _ _ 1 _ _ _ HK4.out.b5
             have y0 := cell_of_row _ _ 0 _ _ _ HK4.out.b6
             have y1 := cell_of_row _ _ 1 _ _ _ HK4.out.b6)))
    | (go_at_call 11; first
       | (with_reducible refine (HSY.out _ (Below.refl _ _)).mono ?_
          rintro e w5 ⟨rfl, hB5⟩
          have HK5 := Lib.hid (HK4.out.keep hB5)
          have HO5 := Lib.hid (HO4.out.keep hB5)
          have HR5 := Lib.hid (HR4.out.keep hB5)
          clear hB5
          have s0 := cell_of_row _ _ 0 _ _ _ HK5.out.b0
          have s1 := cell_of_row _ _ 1 _ _ _ HK5.out.b0
          have x0 := cell_of_row _ _ 0 _ _ _ HK5.out.b1
          have x1 := cell_of_row _ _ 1 _ _ _ HK5.out.b1
          have t0 := cell_of_row _ _ 0 _ _ _ HK5.out.b5
          have t1 := cell_of_row _ _ 1 _ _ _ HK5.out.b5
          have y0 := cell_of_row _ _ 0 _ _ _ HK5.out.b6
          have y1 := cell_of_row _ _ 1 _ _ _ HK5.out.b6
)
       | (with_reducible refine (HSZ.out _).mono ?_
          rintro e w5 ⟨rfl, hB5⟩
          have HK5 := Lib.hid (HK4.out.keep hB5)
          clear hB5
          have s0 := cell_of_row _ _ 0 _ _ _ HK5.out.b0
          have s1 := cell_of_row _ _ 1 _ _ _ HK5.out.b0
          have x0 := cell_of_row _ _ 0 _ _ _ HK5.out.b1
          have x1 := cell_of_row _ _ 1 _ _ _ HK5.out.b1
          have t0 := cell_of_row _ _ 0 _ _ _ HK5.out.b5
          have t1 := cell_of_row _ _ 1 _ _ _ HK5.out.b5
          have y0 := cell_of_row _ _ 0 _ _ _ HK5.out.b6
          have y1 := cell_of_row _ _ 1 _ _ _ HK5.out.b6
)
       | (with_reducible refine (HSM.out _ HK5.out.below).mono ?_
          rintro e w6 ⟨rfl, hB6⟩
          have HK6 := Lib.hid (HK5.out.keep hB6)
          (try have HO6 := Lib.hid (HO5.out.keep hB6))
          (try have HR6 := Lib.hid (HR5.out.keep hB6))
          clear hB6))
    | fail)
  · have HKd := Lib.hid (HK6.out.keep ((Below.refl _ w6).drew))
    have HOd := Lib.hid (HO6.out.keep ((Below.refl _ w6).drew))
    have HRd := Lib.hid (HR6.out.keep ((Below.refl _ w6).drew))
    have t0 := cell_of_row w6.drew _ 0 _ _ _ HKd.out.b5
    have t1 := cell_of_row w6.drew _ 1 _ _ _ HKd.out.b5
    have y0 := cell_of_row w6.drew _ 0 _ _ _ HKd.out.b6
    have y1 := cell_of_row w6.drew _ 1 _ _ _ HKd.out.b6
    have q0 := cell_of_row w6.drew _ 0 _ _ _ HKd.out.b3
    have q1 := cell_of_row w6.drew _ 1 _ _ _ HKd.out.b3
    have r0 := cell_of_row w6.drew _ 0 _ _ _ HKd.out.b4
    have r1 := cell_of_row w6.drew _ 1 _ _ _ HKd.out.b4
    have zb30 := frozen_of_row w6.drew _ 0 _ _ HKd.out.b3
    have zb31 := frozen_of_row w6.drew _ 1 _ _ HKd.out.b3
    have zb40 := frozen_of_row w6.drew _ 0 _ _ HKd.out.b4
    have zb41 := frozen_of_row w6.drew _ 1 _ _ HKd.out.b4
    have ss0 := cell_of_row _ _ 0 _ _ _ HK6.out.b0
    have ss1 := cell_of_row _ _ 1 _ _ _ HK6.out.b0
    have xx0 := cell_of_row _ _ 0 _ _ _ HK6.out.b1
    have xx1 := cell_of_row _ _ 1 _ _ _ HK6.out.b1
    have tt0 := cell_of_row _ _ 0 _ _ _ HK6.out.b5
    have tt1 := cell_of_row _ _ 1 _ _ _ HK6.out.b5
    have yy0 := cell_of_row _ _ 0 _ _ _ HK6.out.b6
    have yy1 := cell_of_row _ _ 1 _ _ _ HK6.out.b6
    have qq0 := cell_of_row _ _ 0 _ _ _ HK6.out.b3
    have qq1 := cell_of_row _ _ 1 _ _ _ HK6.out.b3
    have rr0 := cell_of_row _ _ 0 _ _ _ HK6.out.b4
    have rr1 := cell_of_row _ _ 1 _ _ _ HK6.out.b4
    have zzb30 := frozen_of_row _ _ 0 _ _ HK6.out.b3
    have zzb31 := frozen_of_row _ _ 1 _ _ HK6.out.b3
    have zzb40 := frozen_of_row _ _ 0 _ _ HK6.out.b4
    have zzb41 := frozen_of_row _ _ 1 _ _ HK6.out.b4
    go_region
    all_goals
      go_wp2_with fail
      refine bodyPost_ret (v := .tuple #[.agg #[.slice A5 n5 c5, .slice ia5 m5 ic5], .agg #[.slice A6 n5 c6, .slice ia6 m5 ic6], .bool true]) (by simp [results, Tryz.results9, go_sem, qq0, qq1, rr0, rr1]) rfl ?_
      have e1 := HLN6.out
      have e2 := HLM6.out
      have e3 := HN5.out
      have e4 := HM5.out
      subst e3 e4
      first
      | exact ⟨(HK6.out.done _ _ _ _).drew, Or.inr ⟨HZ0.out, A5, ia5, A6, ia6, c5, ic5, c6, ic6, hh, ts5, xs5, ts6, xs6, by rw [e1, e2], (((((HO6.out.box (w.heap.size + 1 + 1 + 1) 0 _ (Or.inl (by omega))).box (w.heap.size + 1 + 1 + 1) 1 _ (Or.inl (by omega))).box (w.heap.size + 1 + 1 + 1 + 1) 0 _ (Or.inl (by omega))).box (w.heap.size + 1 + 1 + 1 + 1) 1 _ (Or.inl (by omega))).le (by omega)).keep ((Below.refl _ _).drew), (ReadP.setBox (ReadP.setBox HR6.out HK6.out.b3 _ _ _ _) (far2 HK6.out.b4 (by omega)) _ _ _ _).keep ((Below.refl _ _).drew), HT5.out, HX5.out, HT6.out, HX6.out⟩⟩
      | exact ⟨(HK6.out.done2 _ _ _ _).drew, Or.inr ⟨HZ0.out, A5, ia5, A6, ia6, c5, ic5, c6, ic6, hh, ts5, xs5, ts6, xs6, by rw [e1, e2], (((((HO6.out.box (w.heap.size + 1 + 1 + 1 + 1) 0 _ (Or.inl (by omega))).box (w.heap.size + 1 + 1 + 1 + 1) 1 _ (Or.inl (by omega))).box (w.heap.size + 1 + 1 + 1) 0 _ (Or.inl (by omega))).box (w.heap.size + 1 + 1 + 1) 1 _ (Or.inl (by omega))).le (by omega)).keep ((Below.refl _ _).drew), (ReadP.setBox (ReadP.setBox HR6.out HK6.out.b4 _ _ _ _) (far2 HK6.out.b3 (by omega)) _ _ _ _).keep ((Below.refl _ _).drew), HT5.out, HX5.out, HT6.out, HX6.out⟩⟩
  · have HKd := Lib.hid (HK6.out.keep ((Below.refl _ w6).drew))
    have s0 := cell_of_row w6.drew _ 0 _ _ _ HKd.out.b0
    have s1 := cell_of_row w6.drew _ 1 _ _ _ HKd.out.b0
    have x0 := cell_of_row w6.drew _ 0 _ _ _ HKd.out.b1
    have x1 := cell_of_row w6.drew _ 1 _ _ _ HKd.out.b1
    have q0 := cell_of_row w6.drew _ 0 _ _ _ HKd.out.b3
    have q1 := cell_of_row w6.drew _ 1 _ _ _ HKd.out.b3
    have r0 := cell_of_row w6.drew _ 0 _ _ _ HKd.out.b4
    have r1 := cell_of_row w6.drew _ 1 _ _ _ HKd.out.b4
    have zb30 := frozen_of_row w6.drew _ 0 _ _ HKd.out.b3
    have zb31 := frozen_of_row w6.drew _ 1 _ _ HKd.out.b3
    have zb40 := frozen_of_row w6.drew _ 0 _ _ HKd.out.b4
    have zb41 := frozen_of_row w6.drew _ 1 _ _ HKd.out.b4
    have ss0 := cell_of_row _ _ 0 _ _ _ HK6.out.b0
    have ss1 := cell_of_row _ _ 1 _ _ _ HK6.out.b0
    have xx0 := cell_of_row _ _ 0 _ _ _ HK6.out.b1
    have xx1 := cell_of_row _ _ 1 _ _ _ HK6.out.b1
    have tt0 := cell_of_row _ _ 0 _ _ _ HK6.out.b5
    have tt1 := cell_of_row _ _ 1 _ _ _ HK6.out.b5
    have yy0 := cell_of_row _ _ 0 _ _ _ HK6.out.b6
    have yy1 := cell_of_row _ _ 1 _ _ _ HK6.out.b6
    have qq0 := cell_of_row _ _ 0 _ _ _ HK6.out.b3
    have qq1 := cell_of_row _ _ 1 _ _ _ HK6.out.b3
    have rr0 := cell_of_row _ _ 0 _ _ _ HK6.out.b4
    have rr1 := cell_of_row _ _ 1 _ _ _ HK6.out.b4
    have zzb30 := frozen_of_row _ _ 0 _ _ HK6.out.b3
    have zzb31 := frozen_of_row _ _ 1 _ _ HK6.out.b3
    have zzb40 := frozen_of_row _ _ 0 _ _ HK6.out.b4
    have zzb41 := frozen_of_row _ _ 1 _ _ HK6.out.b4
    go_region
    all_goals
      go_wp2_with fail
      refine bodyPost_ret (v := .tuple #[.agg #[.slice A n c, .slice ia mx ic], .agg #[.slice A2 n c2, .slice ia2 mx ic2], .bool true]) (by simp [results, Tryz.results9, go_sem, qq0, qq1, rr0, rr1]) rfl ?_
      first
      | exact ⟨(HK6.out.done _ _ _ _).drew, Or.inl ⟨HNE.out, rfl⟩⟩
      | exact ⟨(HK6.out.done2 _ _ _ _).drew, Or.inl ⟨HNE.out, rfl⟩⟩

set_option maxRecDepth 100000 in
set_option maxHeartbeats 16000000 in
theorem do_putx (m : Int) (gt : Nat → Nat) (ht : ∀ j, j < 23 → finD (Ieee.double.read (gt j)) = true) (A : Option Addr) (c : Nat) (ts : List (Tab × List Col)) (ia : Option Addr) (ic : Nat) (xs : List (Idx × List Int)) (A2 : Option Addr) (c2 : Nat) (ts2 : List (Tab × List Col)) (ia2 : Option Addr) (ic2 : Nat) (xs2 : List (Idx × List Int)) (kind : Int) (t : Tab) (cl : List Col) (x : Idx) (xl : List Int) (nm : ByteArray) (w : World) (hG : Glob m gt w)
    (hS : ReadS w A ia ts xs) (hS2 : ReadS w A2 ia2 ts2 xs2) (hT : ts2.map ptOf = ts.map ptOf) (hX : xs2.map pxOf = xs.map pxOf) (_ht1 : ReadTab w t cl) (hx1 : ReadIdx w x xl) (hT9 : (ts.map ptOf).length ≤ 1000) (hX9 : (putX (xs.map pxOf) (pxOf (x, xl))).length ≤ 1000) (hr : opR kind ≠ 0) (hr1 : opR kind = 1) :
    Calls Tryz.prog 9 #[.agg #[.slice A ts.length c, .slice ia xs.length ic], .agg #[.slice A2 ts2.length c2, .slice ia2 xs2.length ic2], .agg #[.int .i64 kind, .string t.name, .slice t.ca t.cn t.cc, .int .i64 t.root, .int .i64 t.next, .int .i64 t.rows, .string x.name, .string x.table, .slice x.pa x.pn x.pc, .int .i64 x.state, .int .i64 x.root, .int .i64 x.cursor, .string nm]] w (DoP w (.agg #[.slice A ts.length c, .slice ia xs.length ic]) (.agg #[.slice A2 ts2.length c2, .slice ia2 xs2.length ic2]) (errX (ts.map ptOf) (xs.map pxOf) (pxOf (x, xl))) (ts.map ptOf) (putX (xs.map pxOf) (pxOf (x, xl)))) := by
  have hlt : ts2.length = ts.length := by have := congrArg List.length hT; rwa [List.length_map, List.length_map] at this
  have hlx : xs2.length = xs.length := by have := congrArg List.length hX; rwa [List.length_map, List.length_map] at this
  have HST := Lib.hid (DoK.start w A ts.length c ia xs.length ic A2 c2 ia2 ic2 kind t x nm)
  have HP := Lib.hid (show ∀ W, Below w.heap.size w W → Calls Tryz.prog 30 #[.agg #[.slice A ts.length c, .slice ia xs.length ic], .agg #[.string x.name, .string x.table, .slice x.pa x.pn x.pc, .int .i64 x.state, .int .i64 x.root, .int .i64 x.cursor]] W (OutP W (errX (ts.map ptOf) (xs.map pxOf) (pxOf (x, xl))) (ts.map ptOf) (putX (xs.map pxOf) (pxOf (x, xl)))) from fun W hB => putx_all m gt ht A c ts ia ic xs x xl W (hG.keep hB) (hS.keep hB) (hx1.keep hB))
  have HR := Lib.hid (show ∀ W, Below w.heap.size w W → Calls Tryz.prog 31 #[.agg #[.slice A2 ts.length c2, .slice ia2 xs.length ic2], .agg #[.string x.name, .string x.table, .slice x.pa x.pn x.pc, .int .i64 x.state, .int .i64 x.root, .int .i64 x.cursor]] W (DocP W (errX (ts.map ptOf) (xs.map pxOf) (pxOf (x, xl))) (ts.map ptOf) (putX (xs.map pxOf) (pxOf (x, xl)))) from fun W hB => by
    have h := rputx_all m gt ht A2 c2 ts2 ia2 ic2 xs2 x xl W (hG.keep hB) (hS2.keep hB) (hx1.keep hB)
    rw [hT, hX, hlt, hlx] at h
    exact h)
  have HSM := Lib.hid (show ∀ W, Below w.heap.size w W → Calls Tryz.prog 11 #[.agg #[.slice A ts.length c, .slice ia xs.length ic], .agg #[.slice A2 ts.length c2, .slice ia2 xs.length ic2]] W (RetV (.bool true) W) from fun W hB => by
    have h := same_eq A c ts ia ic xs A2 c2 ts2 ia2 ic2 xs2 W (hS.1.keep hB) (hS.2.1.keep hB) (hS2.1.keep hB) (hS2.2.1.keep hB) hT.symm hX.symm
    rw [hlt, hlx] at h
    exact h)
  have HSZ := Lib.hid (show ∀ W, Calls Tryz.prog 11 #[.agg #[.slice none 0 0, .slice none 0 0], .agg #[.slice none 0 0, .slice none 0 0]] W (RetV (.bool true) W) from fun W =>
    same_eq none 0 [] none 0 [] none 0 [] none 0 [] W ⟨CellsAt.nil_at _ _ _, fun p hp => by cases hp⟩ ⟨CellsAt.nil_at _ _ _, fun p hp => by cases hp⟩ ⟨CellsAt.nil_at _ _ _, fun p hp => by cases hp⟩ ⟨CellsAt.nil_at _ _ _, fun p hp => by cases hp⟩ rfl rfl)
  have HT9 := Lib.hid hT9
  have HX9 := Lib.hid hX9
  rw [hlt, hlx]
  generalize (errX (ts.map ptOf) (xs.map pxOf) (pxOf (x, xl))) = er at HP HR ⊢
  generalize (ts.map ptOf) = T at HP HR HT9 ⊢
  generalize (putX (xs.map pxOf) (pxOf (x, xl))) = X at HP HR HX9 ⊢
  generalize ts.length = n at HST HP HR HSM ⊢
  generalize xs.length = mx at HST HP HR HSM ⊢
  have g0 : ((IntKind.u64.wrap kind).tmod 4 == 0) = false := beq_eq_false_iff_ne.2 hr
  have g1 : ((IntKind.u64.wrap kind).tmod 4 == 1) = true := beq_iff_eq.2 hr1
  clear hr hr1
  clear hG hS hS2 hT hX _ht1 hx1 ht hlt hlx hT9 hX9
  obtain ⟨tn, ta, tl, tc, tr, tx, tw⟩ := t
  obtain ⟨un, ut, ua, ul, uc, us, ur, ux⟩ := x
  dsimp only at HST HP HR ⊢
  go_enter Tryz.func9, Tryz.ntmps9
  go_wp2_with (first
    | (go_at_call 30; (with_reducible refine (HP.out _ HST.out.1.below).mono ?_); rintro e w1 ⟨hB1, hO⟩
       have HK1 := Lib.hid (HST.out.1.keep hB1)
       have zb50 := frozen_of_row _ _ 0 _ _ HK1.out.b5
       have zb51 := frozen_of_row _ _ 1 _ _ HK1.out.b5
       have t50 := cell_of_row _ _ 0 _ _ _ HK1.out.b5
       have t51 := cell_of_row _ _ 1 _ _ _ HK1.out.b5
       rcases hO with ⟨h0, A5, ia5, c5, ic5, hh, ts5, xs5, rfl, hS5, hT5, hX5⟩ | ⟨hne, rfl⟩
       all_goals first
       | (have HZ0 := Lib.hid h0
          have HL5 := Lib.hid (show ts5.length ≤ 1000 ∧ xs5.length ≤ 1000 by
            have h1 := HT9.out
            have h2 := HX9.out
            rw [← hT5, List.length_map] at h1
            rw [← hX5, List.length_map] at h2
            exact ⟨h1, h2⟩)
          have HO1 := Lib.hid (hS5.le HST.out.2)
          have HT5 := Lib.hid hT5
          have HX5 := Lib.hid hX5
          generalize hn5 : ts5.length = n5 at HO1 HL5 ⊢
          generalize hm5 : xs5.length = m5 at HO1 HL5 ⊢
          have HN5 := Lib.hid hn5
          have HM5 := Lib.hid hm5
          have HK2 := Lib.hid (HK1.out.setT A5 n5 c5 ia5 m5 ic5)
          have HO2 := Lib.hid ((HO1.out.box (w.heap.size + 1 + 1 + 1 + 1 + 1) 0 (.slice A5 n5 c5) (Or.inl (by omega))).box (w.heap.size + 1 + 1 + 1 + 1 + 1) 1 (.slice ia5 m5 ic5) (Or.inl (by omega)))
          clear hB1 hS5 hT5 hX5 hn5 hm5 h0
          have s0 := cell_of_row _ _ 0 _ _ _ HK2.out.b0
          have s1 := cell_of_row _ _ 1 _ _ _ HK2.out.b0
          have x0 := cell_of_row _ _ 0 _ _ _ HK2.out.b1
          have x1 := cell_of_row _ _ 1 _ _ _ HK2.out.b1
          have o0 := cell_of_row _ _ 0 _ _ _ HK2.out.b2
          have o1 := cell_of_row _ _ 1 _ _ _ HK2.out.b2
          have o2 := cell_of_row _ _ 2 _ _ _ HK2.out.b2
          have o3 := cell_of_row _ _ 3 _ _ _ HK2.out.b2
          have o4 := cell_of_row _ _ 4 _ _ _ HK2.out.b2
          have o5 := cell_of_row _ _ 5 _ _ _ HK2.out.b2
          have o6 := cell_of_row _ _ 6 _ _ _ HK2.out.b2
          have o7 := cell_of_row _ _ 7 _ _ _ HK2.out.b2
          have o8 := cell_of_row _ _ 8 _ _ _ HK2.out.b2
          have o9 := cell_of_row _ _ 9 _ _ _ HK2.out.b2
          have o10 := cell_of_row _ _ 10 _ _ _ HK2.out.b2
          have o11 := cell_of_row _ _ 11 _ _ _ HK2.out.b2
          have o12 := cell_of_row _ _ 12 _ _ _ HK2.out.b2)
       | (have HNE := Lib.hid hne
          have HK2 := Lib.hid (HK1.out.setT none 0 0 none 0 0)
          clear hB1 hne
          have s0 := cell_of_row _ _ 0 _ _ _ HK2.out.b0
          have s1 := cell_of_row _ _ 1 _ _ _ HK2.out.b0
          have x0 := cell_of_row _ _ 0 _ _ _ HK2.out.b1
          have x1 := cell_of_row _ _ 1 _ _ _ HK2.out.b1
          have o0 := cell_of_row _ _ 0 _ _ _ HK2.out.b2
          have o1 := cell_of_row _ _ 1 _ _ _ HK2.out.b2
          have o2 := cell_of_row _ _ 2 _ _ _ HK2.out.b2
          have o3 := cell_of_row _ _ 3 _ _ _ HK2.out.b2
          have o4 := cell_of_row _ _ 4 _ _ _ HK2.out.b2
          have o5 := cell_of_row _ _ 5 _ _ _ HK2.out.b2
          have o6 := cell_of_row _ _ 6 _ _ _ HK2.out.b2
          have o7 := cell_of_row _ _ 7 _ _ _ HK2.out.b2
          have o8 := cell_of_row _ _ 8 _ _ _ HK2.out.b2
          have o9 := cell_of_row _ _ 9 _ _ _ HK2.out.b2
          have o10 := cell_of_row _ _ 10 _ _ _ HK2.out.b2
          have o11 := cell_of_row _ _ 11 _ _ _ HK2.out.b2
          have o12 := cell_of_row _ _ 12 _ _ _ HK2.out.b2))
    | (go_at_call 31; (with_reducible refine (HR.out _ HK2.out.below).mono ?_); rintro e w3 ⟨hB3, hO⟩
       have HK3 := Lib.hid (HK2.out.keep hB3)
       have zb60 := frozen_of_row _ _ 0 _ _ HK3.out.b6
       have zb61 := frozen_of_row _ _ 1 _ _ HK3.out.b6
       have t60 := cell_of_row _ _ 0 _ _ _ HK3.out.b6
       have t61 := cell_of_row _ _ 1 _ _ _ HK3.out.b6
       first
       | (have hz := HZ0.out
          rcases hO with ⟨_, A6, ia6, c6, ic6, ts6, xs6, rfl, hD6, hI6, _, _, hl6, hx6, hT6, hX6⟩ | ⟨hne, _⟩
          all_goals first
          | exact absurd hz hne
          | (have HO3 := Lib.hid (HO2.out.keep hB3)
             have HR3 := Lib.hid (show ReadP w3 A6 ia6 ts6 xs6 from ⟨hD6, hI6, hl6, hx6⟩)
             have hln : ts6.length = n5 := by
               have h1 := congrArg List.length (hT6.trans HT5.out.symm)
               rw [List.length_map, List.length_map, HN5.out] at h1
               exact h1
             have hlm : xs6.length = m5 := by
               have h1 := congrArg List.length (hX6.trans HX5.out.symm)
               rw [List.length_map, List.length_map, HM5.out] at h1
               exact h1
             rw [hln, hlm]
             have HLN6 := Lib.hid hln
             have HLM6 := Lib.hid hlm
             have HT6 := Lib.hid hT6
             have HX6 := Lib.hid hX6
             have HK4 := Lib.hid (HK3.out.setY A6 n5 c6 ia6 m5 ic6)
             have HO4 := Lib.hid ((HO3.out.box (w.heap.size + 1 + 1 + 1 + 1 + 1 + 1) 0 (.slice A6 n5 c6) (Or.inl (by omega))).box (w.heap.size + 1 + 1 + 1 + 1 + 1 + 1) 1 (.slice ia6 m5 ic6) (Or.inl (by omega)))
             have HR4 := Lib.hid (HR3.out.setBox HK3.out.b6 A6 n5 c6 (.slice ia6 m5 ic6))
             have HSY := Lib.hid (show ∀ W, Below _ _ W → Calls Tryz.prog 11 #[.agg #[.slice A5 n5 c5, .slice ia5 m5 ic5], .agg #[.slice A6 n5 c6, .slice ia6 m5 ic6]] W (RetV (.bool true) W) from fun W hB => by
               have hr1 := (HO4.out.readP HN5.out.symm HM5.out.symm (by rw [HN5.out]; exact HL5.out.1) (by rw [HM5.out]; exact HL5.out.2)).keep hB
               have hr2 := HR4.out.keep hB
               have h := same_eq A5 c5 ts5 ia5 ic5 xs5 A6 c6 ts6 ia6 ic6 xs6 W hr1.1 hr1.2.1 hr2.1 hr2.2.1 (HT5.out.trans HT6.out.symm) (HX5.out.trans HX6.out.symm)
               rw [HN5.out, HM5.out, HLN6.out, HLM6.out] at h
               exact h)
             clear hD6 hI6 hl6 hx6 hT6 hX6 hln hlm hB3 hz
             have s0 := cell_of_row _ _ 0 _ _ _ HK4.out.b0
             have s1 := cell_of_row _ _ 1 _ _ _ HK4.out.b0
             have x0 := cell_of_row _ _ 0 _ _ _ HK4.out.b1
             have x1 := cell_of_row _ _ 1 _ _ _ HK4.out.b1
             have t0 := cell_of_row _ _ 0 _ _ _ HK4.out.b5
             have t1 := cell_of_row _ _ 1 _ _ _ HK4.out.b5
             have y0 := cell_of_row _ _ 0 _ _ _ HK4.out.b6
             have y1 := cell_of_row _ _ 1 _ _ _ HK4.out.b6))
       | (have hn := HNE.out
          rcases hO with ⟨hz, _⟩ | ⟨_, rfl⟩
          all_goals first
          | exact absurd hz hn
          | (have HK4 := Lib.hid (HK3.out.setY none 0 0 none 0 0)
             have hne2 : (er == 0) = false := beq_eq_false_iff_ne.2 hn
             clear hn hB3
             have s0 := cell_of_row _ _ 0 _ _ _ HK4.out.b0
             have s1 := cell_of_row _ _ 1 _ _ _ HK4.out.b0
             have x0 := cell_of_row _ _ 0 _ _ _ HK4.out.b1
             have x1 := cell_of_row _ _ 1 _ _ _ HK4.out.b1
             have t0 := cell_of_row _ _ 0 _ _ _ HK4.out.b5
             have t1 := cell_of_row _ _ 1 _ _ _ HK4.out.b5
             have y0 := cell_of_row _ _ 0 _ _ _ HK4.out.b6
             have y1 := cell_of_row _ _ 1 _ _ _ HK4.out.b6)))
    | (go_at_call 11; first
       | (with_reducible refine (HSY.out _ (Below.refl _ _)).mono ?_
          rintro e w5 ⟨rfl, hB5⟩
          have HK5 := Lib.hid (HK4.out.keep hB5)
          have HO5 := Lib.hid (HO4.out.keep hB5)
          have HR5 := Lib.hid (HR4.out.keep hB5)
          clear hB5
          have s0 := cell_of_row _ _ 0 _ _ _ HK5.out.b0
          have s1 := cell_of_row _ _ 1 _ _ _ HK5.out.b0
          have x0 := cell_of_row _ _ 0 _ _ _ HK5.out.b1
          have x1 := cell_of_row _ _ 1 _ _ _ HK5.out.b1
          have t0 := cell_of_row _ _ 0 _ _ _ HK5.out.b5
          have t1 := cell_of_row _ _ 1 _ _ _ HK5.out.b5
          have y0 := cell_of_row _ _ 0 _ _ _ HK5.out.b6
          have y1 := cell_of_row _ _ 1 _ _ _ HK5.out.b6
)
       | (with_reducible refine (HSZ.out _).mono ?_
          rintro e w5 ⟨rfl, hB5⟩
          have HK5 := Lib.hid (HK4.out.keep hB5)
          clear hB5
          have s0 := cell_of_row _ _ 0 _ _ _ HK5.out.b0
          have s1 := cell_of_row _ _ 1 _ _ _ HK5.out.b0
          have x0 := cell_of_row _ _ 0 _ _ _ HK5.out.b1
          have x1 := cell_of_row _ _ 1 _ _ _ HK5.out.b1
          have t0 := cell_of_row _ _ 0 _ _ _ HK5.out.b5
          have t1 := cell_of_row _ _ 1 _ _ _ HK5.out.b5
          have y0 := cell_of_row _ _ 0 _ _ _ HK5.out.b6
          have y1 := cell_of_row _ _ 1 _ _ _ HK5.out.b6
)
       | (with_reducible refine (HSM.out _ HK5.out.below).mono ?_
          rintro e w6 ⟨rfl, hB6⟩
          have HK6 := Lib.hid (HK5.out.keep hB6)
          (try have HO6 := Lib.hid (HO5.out.keep hB6))
          (try have HR6 := Lib.hid (HR5.out.keep hB6))
          clear hB6))
    | fail)
  · have HKd := Lib.hid (HK6.out.keep ((Below.refl _ w6).drew))
    have HOd := Lib.hid (HO6.out.keep ((Below.refl _ w6).drew))
    have HRd := Lib.hid (HR6.out.keep ((Below.refl _ w6).drew))
    have t0 := cell_of_row w6.drew _ 0 _ _ _ HKd.out.b5
    have t1 := cell_of_row w6.drew _ 1 _ _ _ HKd.out.b5
    have y0 := cell_of_row w6.drew _ 0 _ _ _ HKd.out.b6
    have y1 := cell_of_row w6.drew _ 1 _ _ _ HKd.out.b6
    have q0 := cell_of_row w6.drew _ 0 _ _ _ HKd.out.b3
    have q1 := cell_of_row w6.drew _ 1 _ _ _ HKd.out.b3
    have r0 := cell_of_row w6.drew _ 0 _ _ _ HKd.out.b4
    have r1 := cell_of_row w6.drew _ 1 _ _ _ HKd.out.b4
    have zb30 := frozen_of_row w6.drew _ 0 _ _ HKd.out.b3
    have zb31 := frozen_of_row w6.drew _ 1 _ _ HKd.out.b3
    have zb40 := frozen_of_row w6.drew _ 0 _ _ HKd.out.b4
    have zb41 := frozen_of_row w6.drew _ 1 _ _ HKd.out.b4
    have ss0 := cell_of_row _ _ 0 _ _ _ HK6.out.b0
    have ss1 := cell_of_row _ _ 1 _ _ _ HK6.out.b0
    have xx0 := cell_of_row _ _ 0 _ _ _ HK6.out.b1
    have xx1 := cell_of_row _ _ 1 _ _ _ HK6.out.b1
    have tt0 := cell_of_row _ _ 0 _ _ _ HK6.out.b5
    have tt1 := cell_of_row _ _ 1 _ _ _ HK6.out.b5
    have yy0 := cell_of_row _ _ 0 _ _ _ HK6.out.b6
    have yy1 := cell_of_row _ _ 1 _ _ _ HK6.out.b6
    have qq0 := cell_of_row _ _ 0 _ _ _ HK6.out.b3
    have qq1 := cell_of_row _ _ 1 _ _ _ HK6.out.b3
    have rr0 := cell_of_row _ _ 0 _ _ _ HK6.out.b4
    have rr1 := cell_of_row _ _ 1 _ _ _ HK6.out.b4
    have zzb30 := frozen_of_row _ _ 0 _ _ HK6.out.b3
    have zzb31 := frozen_of_row _ _ 1 _ _ HK6.out.b3
    have zzb40 := frozen_of_row _ _ 0 _ _ HK6.out.b4
    have zzb41 := frozen_of_row _ _ 1 _ _ HK6.out.b4
    go_region
    all_goals
      go_wp2_with fail
      refine bodyPost_ret (v := .tuple #[.agg #[.slice A5 n5 c5, .slice ia5 m5 ic5], .agg #[.slice A6 n5 c6, .slice ia6 m5 ic6], .bool true]) (by simp [results, Tryz.results9, go_sem, qq0, qq1, rr0, rr1]) rfl ?_
      have e1 := HLN6.out
      have e2 := HLM6.out
      have e3 := HN5.out
      have e4 := HM5.out
      subst e3 e4
      first
      | exact ⟨(HK6.out.done _ _ _ _).drew, Or.inr ⟨HZ0.out, A5, ia5, A6, ia6, c5, ic5, c6, ic6, hh, ts5, xs5, ts6, xs6, by rw [e1, e2], (((((HO6.out.box (w.heap.size + 1 + 1 + 1) 0 _ (Or.inl (by omega))).box (w.heap.size + 1 + 1 + 1) 1 _ (Or.inl (by omega))).box (w.heap.size + 1 + 1 + 1 + 1) 0 _ (Or.inl (by omega))).box (w.heap.size + 1 + 1 + 1 + 1) 1 _ (Or.inl (by omega))).le (by omega)).keep ((Below.refl _ _).drew), (ReadP.setBox (ReadP.setBox HR6.out HK6.out.b3 _ _ _ _) (far2 HK6.out.b4 (by omega)) _ _ _ _).keep ((Below.refl _ _).drew), HT5.out, HX5.out, HT6.out, HX6.out⟩⟩
      | exact ⟨(HK6.out.done2 _ _ _ _).drew, Or.inr ⟨HZ0.out, A5, ia5, A6, ia6, c5, ic5, c6, ic6, hh, ts5, xs5, ts6, xs6, by rw [e1, e2], (((((HO6.out.box (w.heap.size + 1 + 1 + 1 + 1) 0 _ (Or.inl (by omega))).box (w.heap.size + 1 + 1 + 1 + 1) 1 _ (Or.inl (by omega))).box (w.heap.size + 1 + 1 + 1) 0 _ (Or.inl (by omega))).box (w.heap.size + 1 + 1 + 1) 1 _ (Or.inl (by omega))).le (by omega)).keep ((Below.refl _ _).drew), (ReadP.setBox (ReadP.setBox HR6.out HK6.out.b4 _ _ _ _) (far2 HK6.out.b3 (by omega)) _ _ _ _).keep ((Below.refl _ _).drew), HT5.out, HX5.out, HT6.out, HX6.out⟩⟩
  · have HKd := Lib.hid (HK6.out.keep ((Below.refl _ w6).drew))
    have s0 := cell_of_row w6.drew _ 0 _ _ _ HKd.out.b0
    have s1 := cell_of_row w6.drew _ 1 _ _ _ HKd.out.b0
    have x0 := cell_of_row w6.drew _ 0 _ _ _ HKd.out.b1
    have x1 := cell_of_row w6.drew _ 1 _ _ _ HKd.out.b1
    have q0 := cell_of_row w6.drew _ 0 _ _ _ HKd.out.b3
    have q1 := cell_of_row w6.drew _ 1 _ _ _ HKd.out.b3
    have r0 := cell_of_row w6.drew _ 0 _ _ _ HKd.out.b4
    have r1 := cell_of_row w6.drew _ 1 _ _ _ HKd.out.b4
    have zb30 := frozen_of_row w6.drew _ 0 _ _ HKd.out.b3
    have zb31 := frozen_of_row w6.drew _ 1 _ _ HKd.out.b3
    have zb40 := frozen_of_row w6.drew _ 0 _ _ HKd.out.b4
    have zb41 := frozen_of_row w6.drew _ 1 _ _ HKd.out.b4
    have ss0 := cell_of_row _ _ 0 _ _ _ HK6.out.b0
    have ss1 := cell_of_row _ _ 1 _ _ _ HK6.out.b0
    have xx0 := cell_of_row _ _ 0 _ _ _ HK6.out.b1
    have xx1 := cell_of_row _ _ 1 _ _ _ HK6.out.b1
    have tt0 := cell_of_row _ _ 0 _ _ _ HK6.out.b5
    have tt1 := cell_of_row _ _ 1 _ _ _ HK6.out.b5
    have yy0 := cell_of_row _ _ 0 _ _ _ HK6.out.b6
    have yy1 := cell_of_row _ _ 1 _ _ _ HK6.out.b6
    have qq0 := cell_of_row _ _ 0 _ _ _ HK6.out.b3
    have qq1 := cell_of_row _ _ 1 _ _ _ HK6.out.b3
    have rr0 := cell_of_row _ _ 0 _ _ _ HK6.out.b4
    have rr1 := cell_of_row _ _ 1 _ _ _ HK6.out.b4
    have zzb30 := frozen_of_row _ _ 0 _ _ HK6.out.b3
    have zzb31 := frozen_of_row _ _ 1 _ _ HK6.out.b3
    have zzb40 := frozen_of_row _ _ 0 _ _ HK6.out.b4
    have zzb41 := frozen_of_row _ _ 1 _ _ HK6.out.b4
    go_region
    all_goals
      go_wp2_with fail
      refine bodyPost_ret (v := .tuple #[.agg #[.slice A n c, .slice ia mx ic], .agg #[.slice A2 n c2, .slice ia2 mx ic2], .bool true]) (by simp [results, Tryz.results9, go_sem, qq0, qq1, rr0, rr1]) rfl ?_
      first
      | exact ⟨(HK6.out.done _ _ _ _).drew, Or.inl ⟨HNE.out, rfl⟩⟩
      | exact ⟨(HK6.out.done2 _ _ _ _).drew, Or.inl ⟨HNE.out, rfl⟩⟩

set_option maxRecDepth 100000 in
set_option maxHeartbeats 16000000 in
theorem do_drop (m : Int) (gt : Nat → Nat) (_ht : ∀ j, j < 23 → finD (Ieee.double.read (gt j)) = true) (A : Option Addr) (c : Nat) (ts : List (Tab × List Col)) (ia : Option Addr) (ic : Nat) (xs : List (Idx × List Int)) (A2 : Option Addr) (c2 : Nat) (ts2 : List (Tab × List Col)) (ia2 : Option Addr) (ic2 : Nat) (xs2 : List (Idx × List Int)) (kind : Int) (t : Tab) (cl : List Col) (x : Idx) (xl : List Int) (nm : ByteArray) (w : World) (_hG : Glob m gt w)
    (hS : ReadS w A ia ts xs) (hS2 : ReadS w A2 ia2 ts2 xs2) (hT : ts2.map ptOf = ts.map ptOf) (hX : xs2.map pxOf = xs.map pxOf) (_ht1 : ReadTab w t cl) (_hx1 : ReadIdx w x xl) (hT9 : (dropT (ts.map ptOf) nm).length ≤ 1000) (hX9 : (dropTX (xs.map pxOf) nm).length ≤ 1000) (hr : opR kind ≠ 0) (hr1 : opR kind ≠ 1) (hr2 : opR kind = 2) :
    Calls Tryz.prog 9 #[.agg #[.slice A ts.length c, .slice ia xs.length ic], .agg #[.slice A2 ts2.length c2, .slice ia2 xs2.length ic2], .agg #[.int .i64 kind, .string t.name, .slice t.ca t.cn t.cc, .int .i64 t.root, .int .i64 t.next, .int .i64 t.rows, .string x.name, .string x.table, .slice x.pa x.pn x.pc, .int .i64 x.state, .int .i64 x.root, .int .i64 x.cursor, .string nm]] w (DoP w (.agg #[.slice A ts.length c, .slice ia xs.length ic]) (.agg #[.slice A2 ts2.length c2, .slice ia2 xs2.length ic2]) (errD (ts.map ptOf) nm) (dropT (ts.map ptOf) nm) (dropTX (xs.map pxOf) nm)) := by
  have hlt : ts2.length = ts.length := by have := congrArg List.length hT; rwa [List.length_map, List.length_map] at this
  have hlx : xs2.length = xs.length := by have := congrArg List.length hX; rwa [List.length_map, List.length_map] at this
  have HST := Lib.hid (DoK.start w A ts.length c ia xs.length ic A2 c2 ia2 ic2 kind t x nm)
  have HP := Lib.hid (show ∀ W, Below w.heap.size w W → Calls Tryz.prog 32 #[.agg #[.slice A ts.length c, .slice ia xs.length ic], .string nm] W (OutP W (errD (ts.map ptOf) nm) (dropT (ts.map ptOf) nm) (dropTX (xs.map pxOf) nm)) from fun W hB => sdrop_all A c ts ia ic xs nm W (hS.keep hB))
  have HR := Lib.hid (show ∀ W, Below w.heap.size w W → Calls Tryz.prog 33 #[.agg #[.slice A2 ts.length c2, .slice ia2 xs.length ic2], .string nm] W (DocP W (errD (ts.map ptOf) nm) (dropT (ts.map ptOf) nm) (dropTX (xs.map pxOf) nm)) from fun W hB => by
    have h := rdrop_all A2 c2 ts2 ia2 ic2 xs2 nm W (hS2.keep hB)
    rw [hT, hX, hlt, hlx] at h
    exact h)
  have HSM := Lib.hid (show ∀ W, Below w.heap.size w W → Calls Tryz.prog 11 #[.agg #[.slice A ts.length c, .slice ia xs.length ic], .agg #[.slice A2 ts.length c2, .slice ia2 xs.length ic2]] W (RetV (.bool true) W) from fun W hB => by
    have h := same_eq A c ts ia ic xs A2 c2 ts2 ia2 ic2 xs2 W (hS.1.keep hB) (hS.2.1.keep hB) (hS2.1.keep hB) (hS2.2.1.keep hB) hT.symm hX.symm
    rw [hlt, hlx] at h
    exact h)
  have HSZ := Lib.hid (show ∀ W, Calls Tryz.prog 11 #[.agg #[.slice none 0 0, .slice none 0 0], .agg #[.slice none 0 0, .slice none 0 0]] W (RetV (.bool true) W) from fun W =>
    same_eq none 0 [] none 0 [] none 0 [] none 0 [] W ⟨CellsAt.nil_at _ _ _, fun p hp => by cases hp⟩ ⟨CellsAt.nil_at _ _ _, fun p hp => by cases hp⟩ ⟨CellsAt.nil_at _ _ _, fun p hp => by cases hp⟩ ⟨CellsAt.nil_at _ _ _, fun p hp => by cases hp⟩ rfl rfl)
  have HT9 := Lib.hid hT9
  have HX9 := Lib.hid hX9
  rw [hlt, hlx]
  generalize (errD (ts.map ptOf) nm) = er at HP HR ⊢
  generalize (dropT (ts.map ptOf) nm) = T at HP HR HT9 ⊢
  generalize (dropTX (xs.map pxOf) nm) = X at HP HR HX9 ⊢
  generalize ts.length = n at HST HP HR HSM ⊢
  generalize xs.length = mx at HST HP HR HSM ⊢
  have g0 : ((IntKind.u64.wrap kind).tmod 4 == 0) = false := beq_eq_false_iff_ne.2 hr
  have g1 : ((IntKind.u64.wrap kind).tmod 4 == 1) = false := beq_eq_false_iff_ne.2 hr1
  have g2 : ((IntKind.u64.wrap kind).tmod 4 == 2) = true := beq_iff_eq.2 hr2
  clear hr hr1 hr2
  clear _hG hS hS2 hT hX _ht1 _hx1 _ht hlt hlx hT9 hX9
  obtain ⟨tn, ta, tl, tc, tr, tx, tw⟩ := t
  obtain ⟨un, ut, ua, ul, uc, us, ur, ux⟩ := x
  dsimp only at HST HP HR ⊢
  go_enter Tryz.func9, Tryz.ntmps9
  go_wp2_with (first
    | (go_at_call 32; (with_reducible refine (HP.out _ HST.out.1.below).mono ?_); rintro e w1 ⟨hB1, hO⟩
       have HK1 := Lib.hid (HST.out.1.keep hB1)
       have zb50 := frozen_of_row _ _ 0 _ _ HK1.out.b5
       have zb51 := frozen_of_row _ _ 1 _ _ HK1.out.b5
       have t50 := cell_of_row _ _ 0 _ _ _ HK1.out.b5
       have t51 := cell_of_row _ _ 1 _ _ _ HK1.out.b5
       rcases hO with ⟨h0, A5, ia5, c5, ic5, hh, ts5, xs5, rfl, hS5, hT5, hX5⟩ | ⟨hne, rfl⟩
       all_goals first
       | (have HZ0 := Lib.hid h0
          have HL5 := Lib.hid (show ts5.length ≤ 1000 ∧ xs5.length ≤ 1000 by
            have h1 := HT9.out
            have h2 := HX9.out
            rw [← hT5, List.length_map] at h1
            rw [← hX5, List.length_map] at h2
            exact ⟨h1, h2⟩)
          have HO1 := Lib.hid (hS5.le HST.out.2)
          have HT5 := Lib.hid hT5
          have HX5 := Lib.hid hX5
          generalize hn5 : ts5.length = n5 at HO1 HL5 ⊢
          generalize hm5 : xs5.length = m5 at HO1 HL5 ⊢
          have HN5 := Lib.hid hn5
          have HM5 := Lib.hid hm5
          have HK2 := Lib.hid (HK1.out.setT A5 n5 c5 ia5 m5 ic5)
          have HO2 := Lib.hid ((HO1.out.box (w.heap.size + 1 + 1 + 1 + 1 + 1) 0 (.slice A5 n5 c5) (Or.inl (by omega))).box (w.heap.size + 1 + 1 + 1 + 1 + 1) 1 (.slice ia5 m5 ic5) (Or.inl (by omega)))
          clear hB1 hS5 hT5 hX5 hn5 hm5 h0
          have s0 := cell_of_row _ _ 0 _ _ _ HK2.out.b0
          have s1 := cell_of_row _ _ 1 _ _ _ HK2.out.b0
          have x0 := cell_of_row _ _ 0 _ _ _ HK2.out.b1
          have x1 := cell_of_row _ _ 1 _ _ _ HK2.out.b1
          have o0 := cell_of_row _ _ 0 _ _ _ HK2.out.b2
          have o1 := cell_of_row _ _ 1 _ _ _ HK2.out.b2
          have o2 := cell_of_row _ _ 2 _ _ _ HK2.out.b2
          have o3 := cell_of_row _ _ 3 _ _ _ HK2.out.b2
          have o4 := cell_of_row _ _ 4 _ _ _ HK2.out.b2
          have o5 := cell_of_row _ _ 5 _ _ _ HK2.out.b2
          have o6 := cell_of_row _ _ 6 _ _ _ HK2.out.b2
          have o7 := cell_of_row _ _ 7 _ _ _ HK2.out.b2
          have o8 := cell_of_row _ _ 8 _ _ _ HK2.out.b2
          have o9 := cell_of_row _ _ 9 _ _ _ HK2.out.b2
          have o10 := cell_of_row _ _ 10 _ _ _ HK2.out.b2
          have o11 := cell_of_row _ _ 11 _ _ _ HK2.out.b2
          have o12 := cell_of_row _ _ 12 _ _ _ HK2.out.b2)
       | (have HNE := Lib.hid hne
          have HK2 := Lib.hid (HK1.out.setT none 0 0 none 0 0)
          clear hB1 hne
          have s0 := cell_of_row _ _ 0 _ _ _ HK2.out.b0
          have s1 := cell_of_row _ _ 1 _ _ _ HK2.out.b0
          have x0 := cell_of_row _ _ 0 _ _ _ HK2.out.b1
          have x1 := cell_of_row _ _ 1 _ _ _ HK2.out.b1
          have o0 := cell_of_row _ _ 0 _ _ _ HK2.out.b2
          have o1 := cell_of_row _ _ 1 _ _ _ HK2.out.b2
          have o2 := cell_of_row _ _ 2 _ _ _ HK2.out.b2
          have o3 := cell_of_row _ _ 3 _ _ _ HK2.out.b2
          have o4 := cell_of_row _ _ 4 _ _ _ HK2.out.b2
          have o5 := cell_of_row _ _ 5 _ _ _ HK2.out.b2
          have o6 := cell_of_row _ _ 6 _ _ _ HK2.out.b2
          have o7 := cell_of_row _ _ 7 _ _ _ HK2.out.b2
          have o8 := cell_of_row _ _ 8 _ _ _ HK2.out.b2
          have o9 := cell_of_row _ _ 9 _ _ _ HK2.out.b2
          have o10 := cell_of_row _ _ 10 _ _ _ HK2.out.b2
          have o11 := cell_of_row _ _ 11 _ _ _ HK2.out.b2
          have o12 := cell_of_row _ _ 12 _ _ _ HK2.out.b2))
    | (go_at_call 33; (with_reducible refine (HR.out _ HK2.out.below).mono ?_); rintro e w3 ⟨hB3, hO⟩
       have HK3 := Lib.hid (HK2.out.keep hB3)
       have zb60 := frozen_of_row _ _ 0 _ _ HK3.out.b6
       have zb61 := frozen_of_row _ _ 1 _ _ HK3.out.b6
       have t60 := cell_of_row _ _ 0 _ _ _ HK3.out.b6
       have t61 := cell_of_row _ _ 1 _ _ _ HK3.out.b6
       first
       | (have hz := HZ0.out
          rcases hO with ⟨_, A6, ia6, c6, ic6, ts6, xs6, rfl, hD6, hI6, _, _, hl6, hx6, hT6, hX6⟩ | ⟨hne, _⟩
          all_goals first
          | exact absurd hz hne
          | (have HO3 := Lib.hid (HO2.out.keep hB3)
             have HR3 := Lib.hid (show ReadP w3 A6 ia6 ts6 xs6 from ⟨hD6, hI6, hl6, hx6⟩)
             have hln : ts6.length = n5 := by
               have h1 := congrArg List.length (hT6.trans HT5.out.symm)
               rw [List.length_map, List.length_map, HN5.out] at h1
               exact h1
             have hlm : xs6.length = m5 := by
               have h1 := congrArg List.length (hX6.trans HX5.out.symm)
               rw [List.length_map, List.length_map, HM5.out] at h1
               exact h1
             rw [hln, hlm]
             have HLN6 := Lib.hid hln
             have HLM6 := Lib.hid hlm
             have HT6 := Lib.hid hT6
             have HX6 := Lib.hid hX6
             have HK4 := Lib.hid (HK3.out.setY A6 n5 c6 ia6 m5 ic6)
             have HO4 := Lib.hid ((HO3.out.box (w.heap.size + 1 + 1 + 1 + 1 + 1 + 1) 0 (.slice A6 n5 c6) (Or.inl (by omega))).box (w.heap.size + 1 + 1 + 1 + 1 + 1 + 1) 1 (.slice ia6 m5 ic6) (Or.inl (by omega)))
             have HR4 := Lib.hid (HR3.out.setBox HK3.out.b6 A6 n5 c6 (.slice ia6 m5 ic6))
             have HSY := Lib.hid (show ∀ W, Below _ _ W → Calls Tryz.prog 11 #[.agg #[.slice A5 n5 c5, .slice ia5 m5 ic5], .agg #[.slice A6 n5 c6, .slice ia6 m5 ic6]] W (RetV (.bool true) W) from fun W hB => by
               have hr1 := (HO4.out.readP HN5.out.symm HM5.out.symm (by rw [HN5.out]; exact HL5.out.1) (by rw [HM5.out]; exact HL5.out.2)).keep hB
               have hr2 := HR4.out.keep hB
               have h := same_eq A5 c5 ts5 ia5 ic5 xs5 A6 c6 ts6 ia6 ic6 xs6 W hr1.1 hr1.2.1 hr2.1 hr2.2.1 (HT5.out.trans HT6.out.symm) (HX5.out.trans HX6.out.symm)
               rw [HN5.out, HM5.out, HLN6.out, HLM6.out] at h
               exact h)
             clear hD6 hI6 hl6 hx6 hT6 hX6 hln hlm hB3 hz
             have s0 := cell_of_row _ _ 0 _ _ _ HK4.out.b0
             have s1 := cell_of_row _ _ 1 _ _ _ HK4.out.b0
             have x0 := cell_of_row _ _ 0 _ _ _ HK4.out.b1
             have x1 := cell_of_row _ _ 1 _ _ _ HK4.out.b1
             have t0 := cell_of_row _ _ 0 _ _ _ HK4.out.b5
             have t1 := cell_of_row _ _ 1 _ _ _ HK4.out.b5
             have y0 := cell_of_row _ _ 0 _ _ _ HK4.out.b6
             have y1 := cell_of_row _ _ 1 _ _ _ HK4.out.b6))
       | (have hn := HNE.out
          rcases hO with ⟨hz, _⟩ | ⟨_, rfl⟩
          all_goals first
          | exact absurd hz hn
          | (have HK4 := Lib.hid (HK3.out.setY none 0 0 none 0 0)
             have hne2 : (er == 0) = false := beq_eq_false_iff_ne.2 hn
             clear hn hB3
             have s0 := cell_of_row _ _ 0 _ _ _ HK4.out.b0
             have s1 := cell_of_row _ _ 1 _ _ _ HK4.out.b0
             have x0 := cell_of_row _ _ 0 _ _ _ HK4.out.b1
             have x1 := cell_of_row _ _ 1 _ _ _ HK4.out.b1
             have t0 := cell_of_row _ _ 0 _ _ _ HK4.out.b5
             have t1 := cell_of_row _ _ 1 _ _ _ HK4.out.b5
             have y0 := cell_of_row _ _ 0 _ _ _ HK4.out.b6
             have y1 := cell_of_row _ _ 1 _ _ _ HK4.out.b6)))
    | (go_at_call 11; first
       | (with_reducible refine (HSY.out _ (Below.refl _ _)).mono ?_
          rintro e w5 ⟨rfl, hB5⟩
          have HK5 := Lib.hid (HK4.out.keep hB5)
          have HO5 := Lib.hid (HO4.out.keep hB5)
          have HR5 := Lib.hid (HR4.out.keep hB5)
          clear hB5
          have s0 := cell_of_row _ _ 0 _ _ _ HK5.out.b0
          have s1 := cell_of_row _ _ 1 _ _ _ HK5.out.b0
          have x0 := cell_of_row _ _ 0 _ _ _ HK5.out.b1
          have x1 := cell_of_row _ _ 1 _ _ _ HK5.out.b1
          have t0 := cell_of_row _ _ 0 _ _ _ HK5.out.b5
          have t1 := cell_of_row _ _ 1 _ _ _ HK5.out.b5
          have y0 := cell_of_row _ _ 0 _ _ _ HK5.out.b6
          have y1 := cell_of_row _ _ 1 _ _ _ HK5.out.b6
)
       | (with_reducible refine (HSZ.out _).mono ?_
          rintro e w5 ⟨rfl, hB5⟩
          have HK5 := Lib.hid (HK4.out.keep hB5)
          clear hB5
          have s0 := cell_of_row _ _ 0 _ _ _ HK5.out.b0
          have s1 := cell_of_row _ _ 1 _ _ _ HK5.out.b0
          have x0 := cell_of_row _ _ 0 _ _ _ HK5.out.b1
          have x1 := cell_of_row _ _ 1 _ _ _ HK5.out.b1
          have t0 := cell_of_row _ _ 0 _ _ _ HK5.out.b5
          have t1 := cell_of_row _ _ 1 _ _ _ HK5.out.b5
          have y0 := cell_of_row _ _ 0 _ _ _ HK5.out.b6
          have y1 := cell_of_row _ _ 1 _ _ _ HK5.out.b6
)
       | (with_reducible refine (HSM.out _ HK5.out.below).mono ?_
          rintro e w6 ⟨rfl, hB6⟩
          have HK6 := Lib.hid (HK5.out.keep hB6)
          (try have HO6 := Lib.hid (HO5.out.keep hB6))
          (try have HR6 := Lib.hid (HR5.out.keep hB6))
          clear hB6))
    | fail)
  · have HKd := Lib.hid (HK6.out.keep ((Below.refl _ w6).drew))
    have HOd := Lib.hid (HO6.out.keep ((Below.refl _ w6).drew))
    have HRd := Lib.hid (HR6.out.keep ((Below.refl _ w6).drew))
    have t0 := cell_of_row w6.drew _ 0 _ _ _ HKd.out.b5
    have t1 := cell_of_row w6.drew _ 1 _ _ _ HKd.out.b5
    have y0 := cell_of_row w6.drew _ 0 _ _ _ HKd.out.b6
    have y1 := cell_of_row w6.drew _ 1 _ _ _ HKd.out.b6
    have q0 := cell_of_row w6.drew _ 0 _ _ _ HKd.out.b3
    have q1 := cell_of_row w6.drew _ 1 _ _ _ HKd.out.b3
    have r0 := cell_of_row w6.drew _ 0 _ _ _ HKd.out.b4
    have r1 := cell_of_row w6.drew _ 1 _ _ _ HKd.out.b4
    have zb30 := frozen_of_row w6.drew _ 0 _ _ HKd.out.b3
    have zb31 := frozen_of_row w6.drew _ 1 _ _ HKd.out.b3
    have zb40 := frozen_of_row w6.drew _ 0 _ _ HKd.out.b4
    have zb41 := frozen_of_row w6.drew _ 1 _ _ HKd.out.b4
    have ss0 := cell_of_row _ _ 0 _ _ _ HK6.out.b0
    have ss1 := cell_of_row _ _ 1 _ _ _ HK6.out.b0
    have xx0 := cell_of_row _ _ 0 _ _ _ HK6.out.b1
    have xx1 := cell_of_row _ _ 1 _ _ _ HK6.out.b1
    have tt0 := cell_of_row _ _ 0 _ _ _ HK6.out.b5
    have tt1 := cell_of_row _ _ 1 _ _ _ HK6.out.b5
    have yy0 := cell_of_row _ _ 0 _ _ _ HK6.out.b6
    have yy1 := cell_of_row _ _ 1 _ _ _ HK6.out.b6
    have qq0 := cell_of_row _ _ 0 _ _ _ HK6.out.b3
    have qq1 := cell_of_row _ _ 1 _ _ _ HK6.out.b3
    have rr0 := cell_of_row _ _ 0 _ _ _ HK6.out.b4
    have rr1 := cell_of_row _ _ 1 _ _ _ HK6.out.b4
    have zzb30 := frozen_of_row _ _ 0 _ _ HK6.out.b3
    have zzb31 := frozen_of_row _ _ 1 _ _ HK6.out.b3
    have zzb40 := frozen_of_row _ _ 0 _ _ HK6.out.b4
    have zzb41 := frozen_of_row _ _ 1 _ _ HK6.out.b4
    go_region
    all_goals
      go_wp2_with fail
      refine bodyPost_ret (v := .tuple #[.agg #[.slice A5 n5 c5, .slice ia5 m5 ic5], .agg #[.slice A6 n5 c6, .slice ia6 m5 ic6], .bool true]) (by simp [results, Tryz.results9, go_sem, qq0, qq1, rr0, rr1]) rfl ?_
      have e1 := HLN6.out
      have e2 := HLM6.out
      have e3 := HN5.out
      have e4 := HM5.out
      subst e3 e4
      first
      | exact ⟨(HK6.out.done _ _ _ _).drew, Or.inr ⟨HZ0.out, A5, ia5, A6, ia6, c5, ic5, c6, ic6, hh, ts5, xs5, ts6, xs6, by rw [e1, e2], (((((HO6.out.box (w.heap.size + 1 + 1 + 1) 0 _ (Or.inl (by omega))).box (w.heap.size + 1 + 1 + 1) 1 _ (Or.inl (by omega))).box (w.heap.size + 1 + 1 + 1 + 1) 0 _ (Or.inl (by omega))).box (w.heap.size + 1 + 1 + 1 + 1) 1 _ (Or.inl (by omega))).le (by omega)).keep ((Below.refl _ _).drew), (ReadP.setBox (ReadP.setBox HR6.out HK6.out.b3 _ _ _ _) (far2 HK6.out.b4 (by omega)) _ _ _ _).keep ((Below.refl _ _).drew), HT5.out, HX5.out, HT6.out, HX6.out⟩⟩
      | exact ⟨(HK6.out.done2 _ _ _ _).drew, Or.inr ⟨HZ0.out, A5, ia5, A6, ia6, c5, ic5, c6, ic6, hh, ts5, xs5, ts6, xs6, by rw [e1, e2], (((((HO6.out.box (w.heap.size + 1 + 1 + 1 + 1) 0 _ (Or.inl (by omega))).box (w.heap.size + 1 + 1 + 1 + 1) 1 _ (Or.inl (by omega))).box (w.heap.size + 1 + 1 + 1) 0 _ (Or.inl (by omega))).box (w.heap.size + 1 + 1 + 1) 1 _ (Or.inl (by omega))).le (by omega)).keep ((Below.refl _ _).drew), (ReadP.setBox (ReadP.setBox HR6.out HK6.out.b4 _ _ _ _) (far2 HK6.out.b3 (by omega)) _ _ _ _).keep ((Below.refl _ _).drew), HT5.out, HX5.out, HT6.out, HX6.out⟩⟩
  · have HKd := Lib.hid (HK6.out.keep ((Below.refl _ w6).drew))
    have s0 := cell_of_row w6.drew _ 0 _ _ _ HKd.out.b0
    have s1 := cell_of_row w6.drew _ 1 _ _ _ HKd.out.b0
    have x0 := cell_of_row w6.drew _ 0 _ _ _ HKd.out.b1
    have x1 := cell_of_row w6.drew _ 1 _ _ _ HKd.out.b1
    have q0 := cell_of_row w6.drew _ 0 _ _ _ HKd.out.b3
    have q1 := cell_of_row w6.drew _ 1 _ _ _ HKd.out.b3
    have r0 := cell_of_row w6.drew _ 0 _ _ _ HKd.out.b4
    have r1 := cell_of_row w6.drew _ 1 _ _ _ HKd.out.b4
    have zb30 := frozen_of_row w6.drew _ 0 _ _ HKd.out.b3
    have zb31 := frozen_of_row w6.drew _ 1 _ _ HKd.out.b3
    have zb40 := frozen_of_row w6.drew _ 0 _ _ HKd.out.b4
    have zb41 := frozen_of_row w6.drew _ 1 _ _ HKd.out.b4
    have ss0 := cell_of_row _ _ 0 _ _ _ HK6.out.b0
    have ss1 := cell_of_row _ _ 1 _ _ _ HK6.out.b0
    have xx0 := cell_of_row _ _ 0 _ _ _ HK6.out.b1
    have xx1 := cell_of_row _ _ 1 _ _ _ HK6.out.b1
    have tt0 := cell_of_row _ _ 0 _ _ _ HK6.out.b5
    have tt1 := cell_of_row _ _ 1 _ _ _ HK6.out.b5
    have yy0 := cell_of_row _ _ 0 _ _ _ HK6.out.b6
    have yy1 := cell_of_row _ _ 1 _ _ _ HK6.out.b6
    have qq0 := cell_of_row _ _ 0 _ _ _ HK6.out.b3
    have qq1 := cell_of_row _ _ 1 _ _ _ HK6.out.b3
    have rr0 := cell_of_row _ _ 0 _ _ _ HK6.out.b4
    have rr1 := cell_of_row _ _ 1 _ _ _ HK6.out.b4
    have zzb30 := frozen_of_row _ _ 0 _ _ HK6.out.b3
    have zzb31 := frozen_of_row _ _ 1 _ _ HK6.out.b3
    have zzb40 := frozen_of_row _ _ 0 _ _ HK6.out.b4
    have zzb41 := frozen_of_row _ _ 1 _ _ HK6.out.b4
    go_region
    all_goals
      go_wp2_with fail
      refine bodyPost_ret (v := .tuple #[.agg #[.slice A n c, .slice ia mx ic], .agg #[.slice A2 n c2, .slice ia2 mx ic2], .bool true]) (by simp [results, Tryz.results9, go_sem, qq0, qq1, rr0, rr1]) rfl ?_
      first
      | exact ⟨(HK6.out.done _ _ _ _).drew, Or.inl ⟨HNE.out, rfl⟩⟩
      | exact ⟨(HK6.out.done2 _ _ _ _).drew, Or.inl ⟨HNE.out, rfl⟩⟩

set_option maxRecDepth 100000 in
set_option maxHeartbeats 16000000 in
theorem do_dropx (m : Int) (gt : Nat → Nat) (_ht : ∀ j, j < 23 → finD (Ieee.double.read (gt j)) = true) (A : Option Addr) (c : Nat) (ts : List (Tab × List Col)) (ia : Option Addr) (ic : Nat) (xs : List (Idx × List Int)) (A2 : Option Addr) (c2 : Nat) (ts2 : List (Tab × List Col)) (ia2 : Option Addr) (ic2 : Nat) (xs2 : List (Idx × List Int)) (kind : Int) (t : Tab) (cl : List Col) (x : Idx) (xl : List Int) (nm : ByteArray) (w : World) (_hG : Glob m gt w)
    (hS : ReadS w A ia ts xs) (hS2 : ReadS w A2 ia2 ts2 xs2) (hT : ts2.map ptOf = ts.map ptOf) (hX : xs2.map pxOf = xs.map pxOf) (_ht1 : ReadTab w t cl) (_hx1 : ReadIdx w x xl) (hT9 : (ts.map ptOf).length ≤ 1000) (hX9 : (dropX (xs.map pxOf) nm).length ≤ 1000) (hr : opR kind ≠ 0) (hr1 : opR kind ≠ 1) (hr2 : opR kind ≠ 2) :
    Calls Tryz.prog 9 #[.agg #[.slice A ts.length c, .slice ia xs.length ic], .agg #[.slice A2 ts2.length c2, .slice ia2 xs2.length ic2], .agg #[.int .i64 kind, .string t.name, .slice t.ca t.cn t.cc, .int .i64 t.root, .int .i64 t.next, .int .i64 t.rows, .string x.name, .string x.table, .slice x.pa x.pn x.pc, .int .i64 x.state, .int .i64 x.root, .int .i64 x.cursor, .string nm]] w (DoP w (.agg #[.slice A ts.length c, .slice ia xs.length ic]) (.agg #[.slice A2 ts2.length c2, .slice ia2 xs2.length ic2]) (errDX (xs.map pxOf) nm) (ts.map ptOf) (dropX (xs.map pxOf) nm)) := by
  have hlt : ts2.length = ts.length := by have := congrArg List.length hT; rwa [List.length_map, List.length_map] at this
  have hlx : xs2.length = xs.length := by have := congrArg List.length hX; rwa [List.length_map, List.length_map] at this
  have HST := Lib.hid (DoK.start w A ts.length c ia xs.length ic A2 c2 ia2 ic2 kind t x nm)
  have HP := Lib.hid (show ∀ W, Below w.heap.size w W → Calls Tryz.prog 34 #[.agg #[.slice A ts.length c, .slice ia xs.length ic], .string nm] W (OutP W (errDX (xs.map pxOf) nm) (ts.map ptOf) (dropX (xs.map pxOf) nm)) from fun W hB => dropx_all A c ts ia ic xs nm W (hS.keep hB))
  have HR := Lib.hid (show ∀ W, Below w.heap.size w W → Calls Tryz.prog 35 #[.agg #[.slice A2 ts.length c2, .slice ia2 xs.length ic2], .string nm] W (DocP W (errDX (xs.map pxOf) nm) (ts.map ptOf) (dropX (xs.map pxOf) nm)) from fun W hB => by
    have h := rdropx_all A2 c2 ts2 ia2 ic2 xs2 nm W (hS2.keep hB)
    rw [hT, hX, hlt, hlx] at h
    exact h)
  have HSM := Lib.hid (show ∀ W, Below w.heap.size w W → Calls Tryz.prog 11 #[.agg #[.slice A ts.length c, .slice ia xs.length ic], .agg #[.slice A2 ts.length c2, .slice ia2 xs.length ic2]] W (RetV (.bool true) W) from fun W hB => by
    have h := same_eq A c ts ia ic xs A2 c2 ts2 ia2 ic2 xs2 W (hS.1.keep hB) (hS.2.1.keep hB) (hS2.1.keep hB) (hS2.2.1.keep hB) hT.symm hX.symm
    rw [hlt, hlx] at h
    exact h)
  have HSZ := Lib.hid (show ∀ W, Calls Tryz.prog 11 #[.agg #[.slice none 0 0, .slice none 0 0], .agg #[.slice none 0 0, .slice none 0 0]] W (RetV (.bool true) W) from fun W =>
    same_eq none 0 [] none 0 [] none 0 [] none 0 [] W ⟨CellsAt.nil_at _ _ _, fun p hp => by cases hp⟩ ⟨CellsAt.nil_at _ _ _, fun p hp => by cases hp⟩ ⟨CellsAt.nil_at _ _ _, fun p hp => by cases hp⟩ ⟨CellsAt.nil_at _ _ _, fun p hp => by cases hp⟩ rfl rfl)
  have HT9 := Lib.hid hT9
  have HX9 := Lib.hid hX9
  rw [hlt, hlx]
  generalize (errDX (xs.map pxOf) nm) = er at HP HR ⊢
  generalize (ts.map ptOf) = T at HP HR HT9 ⊢
  generalize (dropX (xs.map pxOf) nm) = X at HP HR HX9 ⊢
  generalize ts.length = n at HST HP HR HSM ⊢
  generalize xs.length = mx at HST HP HR HSM ⊢
  have g0 : ((IntKind.u64.wrap kind).tmod 4 == 0) = false := beq_eq_false_iff_ne.2 hr
  have g1 : ((IntKind.u64.wrap kind).tmod 4 == 1) = false := beq_eq_false_iff_ne.2 hr1
  have g2 : ((IntKind.u64.wrap kind).tmod 4 == 2) = false := beq_eq_false_iff_ne.2 hr2
  clear hr hr1 hr2
  clear _hG hS hS2 hT hX _ht1 _hx1 _ht hlt hlx hT9 hX9
  obtain ⟨tn, ta, tl, tc, tr, tx, tw⟩ := t
  obtain ⟨un, ut, ua, ul, uc, us, ur, ux⟩ := x
  dsimp only at HST HP HR ⊢
  go_enter Tryz.func9, Tryz.ntmps9
  go_wp2_with (first
    | (go_at_call 34; (with_reducible refine (HP.out _ HST.out.1.below).mono ?_); rintro e w1 ⟨hB1, hO⟩
       have HK1 := Lib.hid (HST.out.1.keep hB1)
       have zb50 := frozen_of_row _ _ 0 _ _ HK1.out.b5
       have zb51 := frozen_of_row _ _ 1 _ _ HK1.out.b5
       have t50 := cell_of_row _ _ 0 _ _ _ HK1.out.b5
       have t51 := cell_of_row _ _ 1 _ _ _ HK1.out.b5
       rcases hO with ⟨h0, A5, ia5, c5, ic5, hh, ts5, xs5, rfl, hS5, hT5, hX5⟩ | ⟨hne, rfl⟩
       all_goals first
       | (have HZ0 := Lib.hid h0
          have HL5 := Lib.hid (show ts5.length ≤ 1000 ∧ xs5.length ≤ 1000 by
            have h1 := HT9.out
            have h2 := HX9.out
            rw [← hT5, List.length_map] at h1
            rw [← hX5, List.length_map] at h2
            exact ⟨h1, h2⟩)
          have HO1 := Lib.hid (hS5.le HST.out.2)
          have HT5 := Lib.hid hT5
          have HX5 := Lib.hid hX5
          generalize hn5 : ts5.length = n5 at HO1 HL5 ⊢
          generalize hm5 : xs5.length = m5 at HO1 HL5 ⊢
          have HN5 := Lib.hid hn5
          have HM5 := Lib.hid hm5
          have HK2 := Lib.hid (HK1.out.setT A5 n5 c5 ia5 m5 ic5)
          have HO2 := Lib.hid ((HO1.out.box (w.heap.size + 1 + 1 + 1 + 1 + 1) 0 (.slice A5 n5 c5) (Or.inl (by omega))).box (w.heap.size + 1 + 1 + 1 + 1 + 1) 1 (.slice ia5 m5 ic5) (Or.inl (by omega)))
          clear hB1 hS5 hT5 hX5 hn5 hm5 h0
          have s0 := cell_of_row _ _ 0 _ _ _ HK2.out.b0
          have s1 := cell_of_row _ _ 1 _ _ _ HK2.out.b0
          have x0 := cell_of_row _ _ 0 _ _ _ HK2.out.b1
          have x1 := cell_of_row _ _ 1 _ _ _ HK2.out.b1
          have o0 := cell_of_row _ _ 0 _ _ _ HK2.out.b2
          have o1 := cell_of_row _ _ 1 _ _ _ HK2.out.b2
          have o2 := cell_of_row _ _ 2 _ _ _ HK2.out.b2
          have o3 := cell_of_row _ _ 3 _ _ _ HK2.out.b2
          have o4 := cell_of_row _ _ 4 _ _ _ HK2.out.b2
          have o5 := cell_of_row _ _ 5 _ _ _ HK2.out.b2
          have o6 := cell_of_row _ _ 6 _ _ _ HK2.out.b2
          have o7 := cell_of_row _ _ 7 _ _ _ HK2.out.b2
          have o8 := cell_of_row _ _ 8 _ _ _ HK2.out.b2
          have o9 := cell_of_row _ _ 9 _ _ _ HK2.out.b2
          have o10 := cell_of_row _ _ 10 _ _ _ HK2.out.b2
          have o11 := cell_of_row _ _ 11 _ _ _ HK2.out.b2
          have o12 := cell_of_row _ _ 12 _ _ _ HK2.out.b2)
       | (have HNE := Lib.hid hne
          have HK2 := Lib.hid (HK1.out.setT none 0 0 none 0 0)
          clear hB1 hne
          have s0 := cell_of_row _ _ 0 _ _ _ HK2.out.b0
          have s1 := cell_of_row _ _ 1 _ _ _ HK2.out.b0
          have x0 := cell_of_row _ _ 0 _ _ _ HK2.out.b1
          have x1 := cell_of_row _ _ 1 _ _ _ HK2.out.b1
          have o0 := cell_of_row _ _ 0 _ _ _ HK2.out.b2
          have o1 := cell_of_row _ _ 1 _ _ _ HK2.out.b2
          have o2 := cell_of_row _ _ 2 _ _ _ HK2.out.b2
          have o3 := cell_of_row _ _ 3 _ _ _ HK2.out.b2
          have o4 := cell_of_row _ _ 4 _ _ _ HK2.out.b2
          have o5 := cell_of_row _ _ 5 _ _ _ HK2.out.b2
          have o6 := cell_of_row _ _ 6 _ _ _ HK2.out.b2
          have o7 := cell_of_row _ _ 7 _ _ _ HK2.out.b2
          have o8 := cell_of_row _ _ 8 _ _ _ HK2.out.b2
          have o9 := cell_of_row _ _ 9 _ _ _ HK2.out.b2
          have o10 := cell_of_row _ _ 10 _ _ _ HK2.out.b2
          have o11 := cell_of_row _ _ 11 _ _ _ HK2.out.b2
          have o12 := cell_of_row _ _ 12 _ _ _ HK2.out.b2))
    | (go_at_call 35; (with_reducible refine (HR.out _ HK2.out.below).mono ?_); rintro e w3 ⟨hB3, hO⟩
       have HK3 := Lib.hid (HK2.out.keep hB3)
       have zb60 := frozen_of_row _ _ 0 _ _ HK3.out.b6
       have zb61 := frozen_of_row _ _ 1 _ _ HK3.out.b6
       have t60 := cell_of_row _ _ 0 _ _ _ HK3.out.b6
       have t61 := cell_of_row _ _ 1 _ _ _ HK3.out.b6
       first
       | (have hz := HZ0.out
          rcases hO with ⟨_, A6, ia6, c6, ic6, ts6, xs6, rfl, hD6, hI6, _, _, hl6, hx6, hT6, hX6⟩ | ⟨hne, _⟩
          all_goals first
          | exact absurd hz hne
          | (have HO3 := Lib.hid (HO2.out.keep hB3)
             have HR3 := Lib.hid (show ReadP w3 A6 ia6 ts6 xs6 from ⟨hD6, hI6, hl6, hx6⟩)
             have hln : ts6.length = n5 := by
               have h1 := congrArg List.length (hT6.trans HT5.out.symm)
               rw [List.length_map, List.length_map, HN5.out] at h1
               exact h1
             have hlm : xs6.length = m5 := by
               have h1 := congrArg List.length (hX6.trans HX5.out.symm)
               rw [List.length_map, List.length_map, HM5.out] at h1
               exact h1
             rw [hln, hlm]
             have HLN6 := Lib.hid hln
             have HLM6 := Lib.hid hlm
             have HT6 := Lib.hid hT6
             have HX6 := Lib.hid hX6
             have HK4 := Lib.hid (HK3.out.setY A6 n5 c6 ia6 m5 ic6)
             have HO4 := Lib.hid ((HO3.out.box (w.heap.size + 1 + 1 + 1 + 1 + 1 + 1) 0 (.slice A6 n5 c6) (Or.inl (by omega))).box (w.heap.size + 1 + 1 + 1 + 1 + 1 + 1) 1 (.slice ia6 m5 ic6) (Or.inl (by omega)))
             have HR4 := Lib.hid (HR3.out.setBox HK3.out.b6 A6 n5 c6 (.slice ia6 m5 ic6))
             have HSY := Lib.hid (show ∀ W, Below _ _ W → Calls Tryz.prog 11 #[.agg #[.slice A5 n5 c5, .slice ia5 m5 ic5], .agg #[.slice A6 n5 c6, .slice ia6 m5 ic6]] W (RetV (.bool true) W) from fun W hB => by
               have hr1 := (HO4.out.readP HN5.out.symm HM5.out.symm (by rw [HN5.out]; exact HL5.out.1) (by rw [HM5.out]; exact HL5.out.2)).keep hB
               have hr2 := HR4.out.keep hB
               have h := same_eq A5 c5 ts5 ia5 ic5 xs5 A6 c6 ts6 ia6 ic6 xs6 W hr1.1 hr1.2.1 hr2.1 hr2.2.1 (HT5.out.trans HT6.out.symm) (HX5.out.trans HX6.out.symm)
               rw [HN5.out, HM5.out, HLN6.out, HLM6.out] at h
               exact h)
             clear hD6 hI6 hl6 hx6 hT6 hX6 hln hlm hB3 hz
             have s0 := cell_of_row _ _ 0 _ _ _ HK4.out.b0
             have s1 := cell_of_row _ _ 1 _ _ _ HK4.out.b0
             have x0 := cell_of_row _ _ 0 _ _ _ HK4.out.b1
             have x1 := cell_of_row _ _ 1 _ _ _ HK4.out.b1
             have t0 := cell_of_row _ _ 0 _ _ _ HK4.out.b5
             have t1 := cell_of_row _ _ 1 _ _ _ HK4.out.b5
             have y0 := cell_of_row _ _ 0 _ _ _ HK4.out.b6
             have y1 := cell_of_row _ _ 1 _ _ _ HK4.out.b6))
       | (have hn := HNE.out
          rcases hO with ⟨hz, _⟩ | ⟨_, rfl⟩
          all_goals first
          | exact absurd hz hn
          | (have HK4 := Lib.hid (HK3.out.setY none 0 0 none 0 0)
             have hne2 : (er == 0) = false := beq_eq_false_iff_ne.2 hn
             clear hn hB3
             have s0 := cell_of_row _ _ 0 _ _ _ HK4.out.b0
             have s1 := cell_of_row _ _ 1 _ _ _ HK4.out.b0
             have x0 := cell_of_row _ _ 0 _ _ _ HK4.out.b1
             have x1 := cell_of_row _ _ 1 _ _ _ HK4.out.b1
             have t0 := cell_of_row _ _ 0 _ _ _ HK4.out.b5
             have t1 := cell_of_row _ _ 1 _ _ _ HK4.out.b5
             have y0 := cell_of_row _ _ 0 _ _ _ HK4.out.b6
             have y1 := cell_of_row _ _ 1 _ _ _ HK4.out.b6)))
    | (go_at_call 11; first
       | (with_reducible refine (HSY.out _ (Below.refl _ _)).mono ?_
          rintro e w5 ⟨rfl, hB5⟩
          have HK5 := Lib.hid (HK4.out.keep hB5)
          have HO5 := Lib.hid (HO4.out.keep hB5)
          have HR5 := Lib.hid (HR4.out.keep hB5)
          clear hB5
          have s0 := cell_of_row _ _ 0 _ _ _ HK5.out.b0
          have s1 := cell_of_row _ _ 1 _ _ _ HK5.out.b0
          have x0 := cell_of_row _ _ 0 _ _ _ HK5.out.b1
          have x1 := cell_of_row _ _ 1 _ _ _ HK5.out.b1
          have t0 := cell_of_row _ _ 0 _ _ _ HK5.out.b5
          have t1 := cell_of_row _ _ 1 _ _ _ HK5.out.b5
          have y0 := cell_of_row _ _ 0 _ _ _ HK5.out.b6
          have y1 := cell_of_row _ _ 1 _ _ _ HK5.out.b6
)
       | (with_reducible refine (HSZ.out _).mono ?_
          rintro e w5 ⟨rfl, hB5⟩
          have HK5 := Lib.hid (HK4.out.keep hB5)
          clear hB5
          have s0 := cell_of_row _ _ 0 _ _ _ HK5.out.b0
          have s1 := cell_of_row _ _ 1 _ _ _ HK5.out.b0
          have x0 := cell_of_row _ _ 0 _ _ _ HK5.out.b1
          have x1 := cell_of_row _ _ 1 _ _ _ HK5.out.b1
          have t0 := cell_of_row _ _ 0 _ _ _ HK5.out.b5
          have t1 := cell_of_row _ _ 1 _ _ _ HK5.out.b5
          have y0 := cell_of_row _ _ 0 _ _ _ HK5.out.b6
          have y1 := cell_of_row _ _ 1 _ _ _ HK5.out.b6
)
       | (with_reducible refine (HSM.out _ HK5.out.below).mono ?_
          rintro e w6 ⟨rfl, hB6⟩
          have HK6 := Lib.hid (HK5.out.keep hB6)
          (try have HO6 := Lib.hid (HO5.out.keep hB6))
          (try have HR6 := Lib.hid (HR5.out.keep hB6))
          clear hB6))
    | fail)
  · have HKd := Lib.hid (HK6.out.keep ((Below.refl _ w6).drew))
    have HOd := Lib.hid (HO6.out.keep ((Below.refl _ w6).drew))
    have HRd := Lib.hid (HR6.out.keep ((Below.refl _ w6).drew))
    have t0 := cell_of_row w6.drew _ 0 _ _ _ HKd.out.b5
    have t1 := cell_of_row w6.drew _ 1 _ _ _ HKd.out.b5
    have y0 := cell_of_row w6.drew _ 0 _ _ _ HKd.out.b6
    have y1 := cell_of_row w6.drew _ 1 _ _ _ HKd.out.b6
    have q0 := cell_of_row w6.drew _ 0 _ _ _ HKd.out.b3
    have q1 := cell_of_row w6.drew _ 1 _ _ _ HKd.out.b3
    have r0 := cell_of_row w6.drew _ 0 _ _ _ HKd.out.b4
    have r1 := cell_of_row w6.drew _ 1 _ _ _ HKd.out.b4
    have zb30 := frozen_of_row w6.drew _ 0 _ _ HKd.out.b3
    have zb31 := frozen_of_row w6.drew _ 1 _ _ HKd.out.b3
    have zb40 := frozen_of_row w6.drew _ 0 _ _ HKd.out.b4
    have zb41 := frozen_of_row w6.drew _ 1 _ _ HKd.out.b4
    have ss0 := cell_of_row _ _ 0 _ _ _ HK6.out.b0
    have ss1 := cell_of_row _ _ 1 _ _ _ HK6.out.b0
    have xx0 := cell_of_row _ _ 0 _ _ _ HK6.out.b1
    have xx1 := cell_of_row _ _ 1 _ _ _ HK6.out.b1
    have tt0 := cell_of_row _ _ 0 _ _ _ HK6.out.b5
    have tt1 := cell_of_row _ _ 1 _ _ _ HK6.out.b5
    have yy0 := cell_of_row _ _ 0 _ _ _ HK6.out.b6
    have yy1 := cell_of_row _ _ 1 _ _ _ HK6.out.b6
    have qq0 := cell_of_row _ _ 0 _ _ _ HK6.out.b3
    have qq1 := cell_of_row _ _ 1 _ _ _ HK6.out.b3
    have rr0 := cell_of_row _ _ 0 _ _ _ HK6.out.b4
    have rr1 := cell_of_row _ _ 1 _ _ _ HK6.out.b4
    have zzb30 := frozen_of_row _ _ 0 _ _ HK6.out.b3
    have zzb31 := frozen_of_row _ _ 1 _ _ HK6.out.b3
    have zzb40 := frozen_of_row _ _ 0 _ _ HK6.out.b4
    have zzb41 := frozen_of_row _ _ 1 _ _ HK6.out.b4
    go_region
    all_goals
      go_wp2_with fail
      refine bodyPost_ret (v := .tuple #[.agg #[.slice A5 n5 c5, .slice ia5 m5 ic5], .agg #[.slice A6 n5 c6, .slice ia6 m5 ic6], .bool true]) (by simp [results, Tryz.results9, go_sem, qq0, qq1, rr0, rr1]) rfl ?_
      have e1 := HLN6.out
      have e2 := HLM6.out
      have e3 := HN5.out
      have e4 := HM5.out
      subst e3 e4
      first
      | exact ⟨(HK6.out.done _ _ _ _).drew, Or.inr ⟨HZ0.out, A5, ia5, A6, ia6, c5, ic5, c6, ic6, hh, ts5, xs5, ts6, xs6, by rw [e1, e2], (((((HO6.out.box (w.heap.size + 1 + 1 + 1) 0 _ (Or.inl (by omega))).box (w.heap.size + 1 + 1 + 1) 1 _ (Or.inl (by omega))).box (w.heap.size + 1 + 1 + 1 + 1) 0 _ (Or.inl (by omega))).box (w.heap.size + 1 + 1 + 1 + 1) 1 _ (Or.inl (by omega))).le (by omega)).keep ((Below.refl _ _).drew), (ReadP.setBox (ReadP.setBox HR6.out HK6.out.b3 _ _ _ _) (far2 HK6.out.b4 (by omega)) _ _ _ _).keep ((Below.refl _ _).drew), HT5.out, HX5.out, HT6.out, HX6.out⟩⟩
      | exact ⟨(HK6.out.done2 _ _ _ _).drew, Or.inr ⟨HZ0.out, A5, ia5, A6, ia6, c5, ic5, c6, ic6, hh, ts5, xs5, ts6, xs6, by rw [e1, e2], (((((HO6.out.box (w.heap.size + 1 + 1 + 1 + 1) 0 _ (Or.inl (by omega))).box (w.heap.size + 1 + 1 + 1 + 1) 1 _ (Or.inl (by omega))).box (w.heap.size + 1 + 1 + 1) 0 _ (Or.inl (by omega))).box (w.heap.size + 1 + 1 + 1) 1 _ (Or.inl (by omega))).le (by omega)).keep ((Below.refl _ _).drew), (ReadP.setBox (ReadP.setBox HR6.out HK6.out.b4 _ _ _ _) (far2 HK6.out.b3 (by omega)) _ _ _ _).keep ((Below.refl _ _).drew), HT5.out, HX5.out, HT6.out, HX6.out⟩⟩
  · have HKd := Lib.hid (HK6.out.keep ((Below.refl _ w6).drew))
    have s0 := cell_of_row w6.drew _ 0 _ _ _ HKd.out.b0
    have s1 := cell_of_row w6.drew _ 1 _ _ _ HKd.out.b0
    have x0 := cell_of_row w6.drew _ 0 _ _ _ HKd.out.b1
    have x1 := cell_of_row w6.drew _ 1 _ _ _ HKd.out.b1
    have q0 := cell_of_row w6.drew _ 0 _ _ _ HKd.out.b3
    have q1 := cell_of_row w6.drew _ 1 _ _ _ HKd.out.b3
    have r0 := cell_of_row w6.drew _ 0 _ _ _ HKd.out.b4
    have r1 := cell_of_row w6.drew _ 1 _ _ _ HKd.out.b4
    have zb30 := frozen_of_row w6.drew _ 0 _ _ HKd.out.b3
    have zb31 := frozen_of_row w6.drew _ 1 _ _ HKd.out.b3
    have zb40 := frozen_of_row w6.drew _ 0 _ _ HKd.out.b4
    have zb41 := frozen_of_row w6.drew _ 1 _ _ HKd.out.b4
    have ss0 := cell_of_row _ _ 0 _ _ _ HK6.out.b0
    have ss1 := cell_of_row _ _ 1 _ _ _ HK6.out.b0
    have xx0 := cell_of_row _ _ 0 _ _ _ HK6.out.b1
    have xx1 := cell_of_row _ _ 1 _ _ _ HK6.out.b1
    have tt0 := cell_of_row _ _ 0 _ _ _ HK6.out.b5
    have tt1 := cell_of_row _ _ 1 _ _ _ HK6.out.b5
    have yy0 := cell_of_row _ _ 0 _ _ _ HK6.out.b6
    have yy1 := cell_of_row _ _ 1 _ _ _ HK6.out.b6
    have qq0 := cell_of_row _ _ 0 _ _ _ HK6.out.b3
    have qq1 := cell_of_row _ _ 1 _ _ _ HK6.out.b3
    have rr0 := cell_of_row _ _ 0 _ _ _ HK6.out.b4
    have rr1 := cell_of_row _ _ 1 _ _ _ HK6.out.b4
    have zzb30 := frozen_of_row _ _ 0 _ _ HK6.out.b3
    have zzb31 := frozen_of_row _ _ 1 _ _ HK6.out.b3
    have zzb40 := frozen_of_row _ _ 0 _ _ HK6.out.b4
    have zzb41 := frozen_of_row _ _ 1 _ _ HK6.out.b4
    go_region
    all_goals
      go_wp2_with fail
      refine bodyPost_ret (v := .tuple #[.agg #[.slice A n c, .slice ia mx ic], .agg #[.slice A2 n c2, .slice ia2 mx ic2], .bool true]) (by simp [results, Tryz.results9, go_sem, qq0, qq1, rr0, rr1]) rfl ?_
      first
      | exact ⟨(HK6.out.done _ _ _ _).drew, Or.inl ⟨HNE.out, rfl⟩⟩
      | exact ⟨(HK6.out.done2 _ _ _ _).drew, Or.inl ⟨HNE.out, rfl⟩⟩

theorem do_all (m : Int) (gt : Nat → Nat) (ht : ∀ j, j < 23 → finD (Ieee.double.read (gt j)) = true) (A : Option Addr) (c : Nat) (ts : List (Tab × List Col)) (ia : Option Addr) (ic : Nat) (xs : List (Idx × List Int)) (A2 : Option Addr) (c2 : Nat) (ts2 : List (Tab × List Col)) (ia2 : Option Addr) (ic2 : Nat) (xs2 : List (Idx × List Int)) (kind : Int) (t : Tab) (cl : List Col) (x : Idx) (xl : List Int) (nm : ByteArray) (w : World) (hG : Glob m gt w)
    (hS : ReadS w A ia ts xs) (hS2 : ReadS w A2 ia2 ts2 xs2) (hT : ts2.map ptOf = ts.map ptOf) (hX : xs2.map pxOf = xs.map pxOf) (ht1 : ReadTab w t cl) (hx1 : ReadIdx w x xl) (hT9 : (opT kind (ts.map ptOf) (ptOf (t, cl)) nm).length ≤ 1000) (hX9 : (opX kind (xs.map pxOf) (pxOf (x, xl)) nm).length ≤ 1000) :
    Calls Tryz.prog 9 #[.agg #[.slice A ts.length c, .slice ia xs.length ic], .agg #[.slice A2 ts2.length c2, .slice ia2 xs2.length ic2], .agg #[.int .i64 kind, .string t.name, .slice t.ca t.cn t.cc, .int .i64 t.root, .int .i64 t.next, .int .i64 t.rows, .string x.name, .string x.table, .slice x.pa x.pn x.pc, .int .i64 x.state, .int .i64 x.root, .int .i64 x.cursor, .string nm]] w (DoP w (.agg #[.slice A ts.length c, .slice ia xs.length ic]) (.agg #[.slice A2 ts2.length c2, .slice ia2 xs2.length ic2]) (opErr kind (ts.map ptOf) (xs.map pxOf) (ptOf (t, cl)) (pxOf (x, xl)) nm) (opT kind (ts.map ptOf) (ptOf (t, cl)) nm) (opX kind (xs.map pxOf) (pxOf (x, xl)) nm)) := by
  unfold opErr opT opX
  unfold opT at hT9
  unfold opX at hX9
  by_cases h0 : opR kind = 0
  · rw [if_pos h0] at hT9 hX9 ⊢
    rw [if_pos h0, if_pos h0]
    exact do_put m gt ht A c ts ia ic xs A2 c2 ts2 ia2 ic2 xs2 kind t cl x xl nm w hG hS hS2 hT hX ht1 hx1 hT9 hX9 h0
  · rw [if_neg h0] at hT9 hX9 ⊢
    rw [if_neg h0, if_neg h0]
    by_cases h1 : opR kind = 1
    · rw [if_pos h1] at hT9 hX9 ⊢
      rw [if_pos h1, if_pos h1]
      exact do_putx m gt ht A c ts ia ic xs A2 c2 ts2 ia2 ic2 xs2 kind t cl x xl nm w hG hS hS2 hT hX ht1 hx1 hT9 hX9 h0 h1
    · rw [if_neg h1] at hT9 hX9 ⊢
      rw [if_neg h1, if_neg h1]
      by_cases h2 : opR kind = 2
      · rw [if_pos h2] at hT9 hX9 ⊢
        rw [if_pos h2, if_pos h2]
        exact do_drop m gt ht A c ts ia ic xs A2 c2 ts2 ia2 ic2 xs2 kind t cl x xl nm w hG hS hS2 hT hX ht1 hx1 hT9 hX9 h0 h1 h2
      · rw [if_neg h2] at hT9 hX9 ⊢
        rw [if_neg h2, if_neg h2]
        exact do_dropx m gt ht A c ts ia ic xs A2 c2 ts2 ia2 ic2 xs2 kind t cl x xl nm w hG hS hS2 hT hX ht1 hx1 hT9 hX9 h0 h1 h2
end Go.Proofs.YtcgpflkaejbkhaaGreatDoor
