/- The statement GreedyFits' walk, from what the card gives. -/
import Derived.Test.YteckfakabaiipaaDoorFitsAny
import Derived.Test.YteckfakabaiipaaDoorOpen
namespace Go.Proofs.YteckfakabaiipaaDoor
open Go.RowKit
theorem RowAt.ints {w : World} {a : Option Addr} {n : Nat} {zs : List Int} (h : RowAt .i64 w a n zs) : IntsAt w a zs := by
  obtain ⟨h1, _, h3⟩ := h
  rcases h3 with h3 | ⟨b, off, ha, hc⟩
  · exact .inl (List.eq_nil_of_length_eq_zero (by omega))
  · exact .inr ⟨b, off, ha, fun j hj => hc j (by omega)⟩
theorem table_fits {W : World} (h : laidMetH Tryd.prog Rows.greedyFitsRow.laid W) : TabIn W := table_in h
theorem fits_open {H : Type} {enc : TypeId × Value → H} {W : World} {b0 : Nat} {v1 : Value} {d1 : DataW H} {p1 : List MemPlace}
    (k1 : Value.okWide Tryd.prog W .any b0 25 v1) (h1 : DataW.Trod enc Tryd.prog W 0 (fun _ => true) true 25 v1 d1 p1) (hL : laidMetH Tryd.prog Rows.greedyFitsRow.laid W) :
    Calls Tryd.prog 4 #[v1] W (RetV (.bool true) W) := by
  obtain ⟨aa, ao, at2, n, c, no, co, nt, ct, budget, m, k, base, zs, off, two, rfl, r0, r5, r6, l0, l5, l6, w1, w2, w3, w4⟩ := case_open k1 h1
  exact greedyFits_any aa ao at2 n c no co nt ct budget m k base zs off two W (wf_i64 w1).2 r0.ints r0.1 r5.shorts r6.shorts (table_fits hL)
end Go.Proofs.YteckfakabaiipaaDoor
