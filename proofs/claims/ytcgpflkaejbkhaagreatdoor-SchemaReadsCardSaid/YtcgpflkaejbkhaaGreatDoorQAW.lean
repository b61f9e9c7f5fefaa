/- What changes a schema, each in all its ways: the program's and the document's answers. -/
import Derived.Test.YtcgpflkaejbkhaaGreatDoorQAP
import Derived.Test.YtcgpflkaejbkhaaGreatDoorQAQ
import Derived.Test.YtcgpflkaejbkhaaGreatDoorQAR
import Derived.Test.YtcgpflkaejbkhaaGreatDoorQAS
import Derived.Test.YtcgpflkaejbkhaaGreatDoorQAV
import Derived.Test.YtcgpflkaejbkhaaGreatDoorQAU
import Derived.Test.YtcgpflkaejbkhaaGreatDoorQAO
import Derived.Deep.RegionLaw
import Derived.Deep.RegionHeld3
namespace Go.Proofs.YtcgpflkaejbkhaaGreatDoor
open Go.RowKit

def ReadS (w : World) (A ia : Option Addr) (ts : List (Tab × List Col)) (xs : List (Idx × List Int)) : Prop := DeepAt w A ts ∧ DeepIx w ia xs ∧ ts.length ≤ 1000 ∧ xs.length ≤ 1000 ∧ (∀ p ∈ ts, p.2.length ≤ 1000) ∧ (∀ p ∈ xs, p.2.length ≤ 1000)
theorem ReadS.keep {w w' : World} {A ia : Option Addr} {ts : List (Tab × List Col)} {xs : List (Idx × List Int)} (hB : Below w.heap.size w w') (h : ReadS w A ia ts xs) : ReadS w' A ia ts xs := ⟨h.1.keep hB, h.2.1.keep hB, h.2.2⟩
theorem DeepAt.nil {w : World} {A : Option Addr} {ts : List (Tab × List Col)} (h : DeepAt w A ts) (hA : A = none) : ts = [] := by
 rcases h.1.2 with h0 | ⟨b, off, h1, _⟩
 · rwa [List.map_eq_nil_iff, List.map_eq_nil_iff] at h0
 · rw [hA] at h1; cases h1
theorem DeepIx.nil {w : World} {A : Option Addr} {xs : List (Idx × List Int)} (h : DeepIx w A xs) (hA : A = none) : xs = [] := by
 rcases h.1.2 with h0 | ⟨b, off, h1, _⟩
 · rwa [List.map_eq_nil_iff, List.map_eq_nil_iff] at h0
 · rw [hA] at h1; cases h1
def ReadTab (w : World) (t : Tab) (cl : List Col) : Prop := ColsAt w t.ca cl ∧ t.cn = cl.length ∧ cl.length ≤ t.cc ∧ (t.ca = none → t.cc = 0) ∧ cl.length ≤ 1000
def ReadIdx (w : World) (t : Idx) (cl : List Int) : Prop := IntsAt w t.pa cl ∧ t.pn = cl.length ∧ cl.length ≤ t.pc ∧ (t.pa = none → t.pc = 0) ∧ cl.length ≤ 1000
theorem ReadTab.keep {w w' : World} {t : Tab} {cl : List Col} (hB : Below w.heap.size w w') (h : ReadTab w t cl) : ReadTab w' t cl := ⟨CellsAt.keep hB h.1, h.2⟩
theorem ReadIdx.keep {w w' : World} {t : Idx} {cl : List Int} (hB : Below w.heap.size w w') (h : ReadIdx w t cl) : ReadIdx w' t cl := ⟨IntsAt.keep hB h.1, h.2⟩
theorem find_t {ts : List (Tab × List Col)} {nm : ByteArray} : findN (fun p : Tab × List Col => p.1.name) ts nm = findN PT.name (ts.map ptOf) nm := (findN_map (fun p : Tab × List Col => p.1.name) PT.name ptOf (fun _ => rfl) ts nm).symm
theorem find_none_t {ts : List (Tab × List Col)} {nm : ByteArray} (h : findN PT.name (ts.map ptOf) nm = none) : ∀ p ∈ ts.map Prod.fst, sameN p.name nm = false := by
 rw [← find_t] at h
 unfold findN at h
 rw [List.findIdx?_eq_none_iff] at h
 intro p hp
 obtain ⟨q, hq, rfl⟩ := List.mem_map.1 hp
 exact h q hq
theorem find_some_t {ts : List (Tab × List Col)} {nm : ByteArray} {k : Nat} (h : findN PT.name (ts.map ptOf) nm = some k) : ∃ p ∈ ts.map Prod.fst, sameN p.name nm = true := by
 rw [← find_t] at h
 unfold findN at h
 obtain ⟨h1, h2, _⟩ := List.findIdx?_eq_some_iff_getElem.1 h
 exact ⟨ts[k].1, List.mem_map.2 ⟨ts[k], List.getElem_mem h1, rfl⟩, h2⟩
theorem put_all (m : Int) (gt : Nat → Nat) (ht : ∀ j, j < 23 → finD (Ieee.double.read (gt j)) = true) (A : Option Addr) (c : Nat) (ts : List (Tab × List Col)) (ia : Option Addr) (ic : Nat) (xs : List (Idx × List Int)) (t : Tab) (cl : List Col) (w : World) (hG : Glob m gt w) (hS : ReadS w A ia ts xs) (hT : ReadTab w t cl) :
   Calls Tryz.prog 27 #[.agg #[.slice A ts.length c, .slice ia xs.length ic], .agg #[.string t.name, .slice t.ca t.cn t.cc, .int .i64 t.root, .int .i64 t.next, .int .i64 t.rows]] w (OutP w (errT (ts.map ptOf) (ptOf (t, cl))) (putT (ts.map ptOf) (ptOf (t, cl))) (xs.map pxOf)) := by
 obtain ⟨hD, hX, hn, hm, hl, hlx⟩ := hS
 obtain ⟨h1, h2, h3, h4, h5⟩ := hT
 have e : (ts.map Prod.fst).length = ts.length := List.length_map ..
 unfold errT putT
 cases hb : tabBad t with
 | true =>
   rw [show ptBad (ptOf (t, cl)) = true from hb, if_pos rfl]
   have h := put_bad m gt ht A c (ts.map Prod.fst) ia xs.length ic t w hG hD.1 hb
   rw [e] at h
   exact h.mono fun _ _ h => h.out (by decide)
 | false =>
   rw [show ptBad (ptOf (t, cl)) = false from hb, if_neg (by decide)]
   cases hf : findN PT.name (ts.map ptOf) (ptOf (t, cl)).name with
   | none =>
     by_cases h8 : 8 ≤ ts.length
     · rw [if_pos (by rw [List.length_map]; simp [h8])]
       have h := put_many m gt ht A c (ts.map Prod.fst) ia xs.length ic t w hG hD.1 hb (find_none_t hf) (by rw [e]; exact h8)
       rw [e] at h
       exact h.mono fun _ _ h => h.out (by decide)
     · rw [if_neg (by rw [List.length_map]; simp [h8])]
       by_cases hcr : colsR cl = 0
       · have h := put_fresh m gt ht A c ts ia ic xs t cl w hG hD hX (by omega) (find_t.trans hf) hm hl hlx h1 h2 h3 h4 hb hcr h5
         rw [show (ptOf (t, cl)).cols = cl from rfl, hcr]
         exact h
       · have h := put_cols m gt ht A c (ts.map Prod.fst) ia xs.length ic t cl w hG hD.1 h1 h2 h3 hb (Or.inr (by rw [e]; omega)) hcr
         rw [e] at h
         exact h.mono fun _ _ h => h.out hcr
   | some k =>
     rw [if_neg (by simp)]
     by_cases hcr : colsR cl = 0
     · have h := put_again m gt ht A c ts ia ic xs t cl w hG hD hX hn k (find_t.trans hf) hm hl hlx h1 h2 h3 h4 hb hcr h5
       rw [show (ptOf (t, cl)).cols = cl from rfl, hcr]
       exact h
     · have h := put_cols m gt ht A c (ts.map Prod.fst) ia xs.length ic t cl w hG hD.1 h1 h2 h3 hb (Or.inl (find_some_t hf)) hcr
       rw [e] at h
       exact h.mono fun _ _ h => h.out hcr
theorem rput_all (m : Int) (gt : Nat → Nat) (ht : ∀ j, j < 23 → finD (Ieee.double.read (gt j)) = true) (A : Option Addr) (c : Nat) (ts : List (Tab × List Col)) (ia : Option Addr) (ic : Nat) (xs : List (Idx × List Int)) (t : Tab) (cl : List Col) (w : World) (hG : Glob m gt w) (hS : ReadS w A ia ts xs) (hT : ReadTab w t cl) :
   Calls Tryz.prog 29 #[.agg #[.slice A ts.length c, .slice ia xs.length ic], .agg #[.string t.name, .slice t.ca t.cn t.cc, .int .i64 t.root, .int .i64 t.next, .int .i64 t.rows]] w (DocP w (errT (ts.map ptOf) (ptOf (t, cl))) (putT (ts.map ptOf) (ptOf (t, cl))) (xs.map pxOf)) := by
 obtain ⟨hD, hX, hn, hm, hl, hlx⟩ := hS
 obtain ⟨h1, h2, h3, h4, h5⟩ := hT
 have e : (ts.map Prod.fst).length = ts.length := List.length_map ..
 unfold errT putT
 cases hb : tabBad t with
 | true =>
   rw [show ptBad (ptOf (t, cl)) = true from hb, if_pos rfl]
   have h := rput_bad m gt ht A c (ts.map Prod.fst) ia xs.length ic t w hG hD.1 hb
   rw [e] at h
   exact h.mono fun _ _ h => h.doc (by decide)
 | false =>
   rw [show ptBad (ptOf (t, cl)) = false from hb, if_neg (by decide)]
   cases hf : findN PT.name (ts.map ptOf) (ptOf (t, cl)).name with
   | none =>
     by_cases h8 : 8 ≤ ts.length
     · rw [if_pos (by rw [List.length_map]; simp [h8])]
       have h := rput_many m gt ht A c (ts.map Prod.fst) ia xs.length ic t w hG hD.1 hb (find_none_t hf) (by rw [e]; exact h8)
       rw [e] at h
       exact h.mono fun _ _ h => h.doc (by decide)
     · rw [if_neg (by rw [List.length_map]; simp [h8])]
       by_cases hcr : colsR cl = 0
       · have h := rput_fresh m gt ht A c ts ia ic xs t cl w hG hD hX hD.nil hX.nil (by omega) hf hl hlx h1 h2 h3 h4 hb hcr h5
         rw [show (ptOf (t, cl)).cols = cl from rfl, hcr]
         exact h
       · have h := rput_cols m gt ht A c (ts.map Prod.fst) ia xs.length ic t cl w hG hD.1 h1 h2 h3 hb (Or.inr (by rw [e]; omega)) hcr
         rw [e] at h
         exact h.mono fun _ _ h => h.doc hcr
   | some k =>
     rw [if_neg (by simp)]
     by_cases hcr : colsR cl = 0
     · have h := rput_again m gt ht A c ts ia ic xs t cl w hG hD hX hD.nil hX.nil hn k hf hl hlx h1 h2 h3 h4 hb hcr h5
       rw [show (ptOf (t, cl)).cols = cl from rfl, hcr]
       exact h
     · have h := rput_cols m gt ht A c (ts.map Prod.fst) ia xs.length ic t cl w hG hD.1 h1 h2 h3 hb (Or.inl (find_some_t hf)) hcr
       rw [e] at h
       exact h.mono fun _ _ h => h.doc hcr
theorem errX_some {T : List PT} {X : List PX} {x : PX} (hb : pxBad x = false) {k : Nat} {t : PT} (hf : findN PT.name T x.table = some k) (ht : T[k]? = some t) (hq : findN PX.name X x.name ≠ none ∨ X.length < 12) : errX T X x = placesR t.cols.length x.places := by
 unfold errX
 rw [hb, if_neg (by decide), hf]
 dsimp only
 rw [if_neg, ht]
 intro h
 rw [Bool.and_eq_true, Option.isNone_iff_eq_none, decide_eq_true_iff] at h
 rcases hq with hq | hq
 · exact hq h.1
 · omega
theorem putx_all (m : Int) (gt : Nat → Nat) (ht : ∀ j, j < 23 → finD (Ieee.double.read (gt j)) = true) (A : Option Addr) (c : Nat) (ts : List (Tab × List Col)) (ia : Option Addr) (ic : Nat) (xs : List (Idx × List Int)) (t : Idx) (cl : List Int) (w : World) (hG : Glob m gt w) (hS : ReadS w A ia ts xs) (hT : ReadIdx w t cl) :
   Calls Tryz.prog 30 #[.agg #[.slice A ts.length c, .slice ia xs.length ic], .agg #[.string t.name, .string t.table, .slice t.pa t.pn t.pc, .int .i64 t.state, .int .i64 t.root, .int .i64 t.cursor]] w (OutP w (errX (ts.map ptOf) (xs.map pxOf) (pxOf (t, cl))) (ts.map ptOf) (putX (xs.map pxOf) (pxOf (t, cl)))) := by
 obtain ⟨hD, hX, hn, hm, hl, hlx⟩ := hS
 obtain ⟨h1, h2, h3, h4, h5⟩ := hT
 cases hb : idxBad t with
 | true =>
   rw [show errX (ts.map ptOf) (xs.map pxOf) (pxOf (t, cl)) = 7 by unfold errX; rw [show pxBad (pxOf (t, cl)) = true from hb, if_pos rfl]]
   exact (putx_bad m gt ht A c ts ia ic xs t w hG hD hX hb).mono fun _ _ h => h.out (by decide)
 | false =>
   have hb2 : pxBad (pxOf (t, cl)) = false := hb
   cases hf : findN PT.name (ts.map ptOf) t.table with
   | none =>
     rw [show errX (ts.map ptOf) (xs.map pxOf) (pxOf (t, cl)) = 130 by unfold errX; rw [hb2, if_neg (by decide), show (pxOf (t, cl)).table = t.table from rfl, hf]]
     exact (putx_none m gt ht A c ts ia ic xs t w hG hD hX hb hf).mono fun _ _ h => h.out (by decide)
   | some kt =>
     have hkt : kt < ts.length := by have := findN_lt hf; rwa [List.length_map] at this
     obtain ⟨⟨t0, l0⟩, ht0⟩ : ∃ p, ts[kt]? = some p := ⟨_, List.getElem?_eq_getElem hkt⟩
     have hpt : (ts.map ptOf)[kt]? = some (ptOf (t0, l0)) := by rw [List.getElem?_map, ht0]; rfl
     by_cases hmany : findN PX.name (xs.map pxOf) t.name = none ∧ 12 ≤ xs.length
     · rw [show errX (ts.map ptOf) (xs.map pxOf) (pxOf (t, cl)) = 11 by
         unfold errX
         rw [hb2, if_neg (by decide), show (pxOf (t, cl)).table = t.table from rfl, hf]
         dsimp only
         rw [show (pxOf (t, cl)).name = t.name from rfl, hmany.1, if_pos (by rw [List.length_map]; simp [hmany.2])]]
       exact (putx_many m gt ht A c ts ia ic xs t w hG hD hX hb kt hf hmany.1 hmany.2).mono fun _ _ h => h.out (by decide)
     · have hq : findN PX.name (xs.map pxOf) (pxOf (t, cl)).name ≠ none ∨ (xs.map pxOf).length < 12 := by
         rw [List.length_map]
         by_cases h : findN PX.name (xs.map pxOf) t.name = none
         · exact Or.inr (Nat.lt_of_not_le (fun h12 => hmany ⟨h, h12⟩))
         · exact Or.inl h
       rw [errX_some hb2 (show findN PT.name (ts.map ptOf) (pxOf (t, cl)).table = some kt from hf) hpt hq]
       show Calls Tryz.prog 30 _ w (OutP w (placesR l0.length cl) _ _)
       by_cases hcr : placesR l0.length cl = 0
       · rw [hcr]
         unfold putX
         rw [show (pxOf (t, cl)).name = t.name from rfl] at hq ⊢
         cases hi : findN PX.name (xs.map pxOf) t.name with
         | none => exact putx_fresh m gt ht A c ts ia ic xs t w hG hD hX hb kt t0 l0 hf ht0 cl h1 h2 h3 h4 hcr h5 hn hl hlx (by rw [List.length_map] at hq; rcases hq with hq | hq; exact absurd hi hq; omega) hi
         | some k => exact putx_again m gt ht A c ts ia ic xs t w hG hD hX hb kt t0 l0 hf ht0 cl h1 h2 h3 h4 hcr h5 hn hl hlx hm k hi
       · refine (putx_places m gt ht A c ts ia ic xs t w hG hD hX hb kt t0 l0 hf ht0 cl h1 h2 h3 ?_ hcr).mono fun _ _ h => h.out hcr
         rw [List.length_map] at hq
         cases hi : findN PX.name (xs.map pxOf) t.name with
         | none => exact Or.inr ⟨rfl, by rcases hq with hq | hq; exact absurd hi hq; exact hq⟩
         | some k => exact Or.inl ⟨k, rfl⟩
theorem rputx_all (m : Int) (gt : Nat → Nat) (ht : ∀ j, j < 23 → finD (Ieee.double.read (gt j)) = true) (A : Option Addr) (c : Nat) (ts : List (Tab × List Col)) (ia : Option Addr) (ic : Nat) (xs : List (Idx × List Int)) (t : Idx) (cl : List Int) (w : World) (hG : Glob m gt w) (hS : ReadS w A ia ts xs) (hT : ReadIdx w t cl) :
   Calls Tryz.prog 31 #[.agg #[.slice A ts.length c, .slice ia xs.length ic], .agg #[.string t.name, .string t.table, .slice t.pa t.pn t.pc, .int .i64 t.state, .int .i64 t.root, .int .i64 t.cursor]] w (DocP w (errX (ts.map ptOf) (xs.map pxOf) (pxOf (t, cl))) (ts.map ptOf) (putX (xs.map pxOf) (pxOf (t, cl)))) := by
 obtain ⟨hD, hX, hn, hm, hl, hlx⟩ := hS
 obtain ⟨h1, h2, h3, h4, h5⟩ := hT
 cases hb : idxBad t with
 | true =>
   rw [show errX (ts.map ptOf) (xs.map pxOf) (pxOf (t, cl)) = 7 by unfold errX; rw [show pxBad (pxOf (t, cl)) = true from hb, if_pos rfl]]
   exact (rputx_bad m gt ht A c ts ia ic xs t w hG hD hX hb).mono fun _ _ h => h.doc (by decide)
 | false =>
   have hb2 : pxBad (pxOf (t, cl)) = false := hb
   cases hf : findN PT.name (ts.map ptOf) t.table with
   | none =>
     rw [show errX (ts.map ptOf) (xs.map pxOf) (pxOf (t, cl)) = 130 by unfold errX; rw [hb2, if_neg (by decide), show (pxOf (t, cl)).table = t.table from rfl, hf]]
     exact (rputx_none m gt ht A c ts ia ic xs t w hG hD hX hb hf).mono fun _ _ h => h.doc (by decide)
   | some kt =>
     have hkt : kt < ts.length := by have := findN_lt hf; rwa [List.length_map] at this
     obtain ⟨⟨t0, l0⟩, ht0⟩ : ∃ p, ts[kt]? = some p := ⟨_, List.getElem?_eq_getElem hkt⟩
     have hpt : (ts.map ptOf)[kt]? = some (ptOf (t0, l0)) := by rw [List.getElem?_map, ht0]; rfl
     by_cases hmany : findN PX.name (xs.map pxOf) t.name = none ∧ 12 ≤ xs.length
     · rw [show errX (ts.map ptOf) (xs.map pxOf) (pxOf (t, cl)) = 11 by
         unfold errX
         rw [hb2, if_neg (by decide), show (pxOf (t, cl)).table = t.table from rfl, hf]
         dsimp only
         rw [show (pxOf (t, cl)).name = t.name from rfl, hmany.1, if_pos (by rw [List.length_map]; simp [hmany.2])]]
       exact (rputx_many m gt ht A c ts ia ic xs t w hG hD hX hb kt hf hmany.1 hmany.2).mono fun _ _ h => h.doc (by decide)
     · have hq : findN PX.name (xs.map pxOf) (pxOf (t, cl)).name ≠ none ∨ (xs.map pxOf).length < 12 := by
         rw [List.length_map]
         by_cases h : findN PX.name (xs.map pxOf) t.name = none
         · exact Or.inr (Nat.lt_of_not_le (fun h12 => hmany ⟨h, h12⟩))
         · exact Or.inl h
       rw [errX_some hb2 (show findN PT.name (ts.map ptOf) (pxOf (t, cl)).table = some kt from hf) hpt hq]
       show Calls Tryz.prog 31 _ w (DocP w (placesR l0.length cl) _ _)
       by_cases hcr : placesR l0.length cl = 0
       · rw [hcr]
         unfold putX
         rw [show (pxOf (t, cl)).name = t.name from rfl] at hq ⊢
         cases hi : findN PX.name (xs.map pxOf) t.name with
         | none => exact rputx_fresh m gt ht A c ts ia ic xs t w hG hD hX hb kt t0 l0 hf ht0 cl h1 h2 h3 hD.nil hX.nil h4 hcr h5 hn hl hlx (by rw [List.length_map] at hq; rcases hq with hq | hq; exact absurd hi hq; omega) hi
         | some k => exact rputx_again m gt ht A c ts ia ic xs t w hG hD hX hb kt t0 l0 hf ht0 cl h1 h2 h3 hD.nil hX.nil h4 hcr h5 hn hl hlx hm k hi
       · refine (rputx_places m gt ht A c ts ia ic xs t w hG hD hX hb kt t0 l0 hf ht0 cl h1 h2 h3 ?_ hcr).mono fun _ _ h => h.doc hcr
         rw [List.length_map] at hq
         cases hi : findN PX.name (xs.map pxOf) t.name with
         | none => exact Or.inr ⟨rfl, by rcases hq with hq | hq; exact absurd hi hq; exact hq⟩
         | some k => exact Or.inl ⟨k, rfl⟩
end Go.Proofs.YtcgpflkaejbkhaaGreatDoor
