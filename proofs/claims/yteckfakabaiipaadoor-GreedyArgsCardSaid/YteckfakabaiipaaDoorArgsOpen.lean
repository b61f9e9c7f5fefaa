/- The statement GreedyArgs' walk, from what the card gives. -/
import Derived.Test.YteckfakabaiipaaDoorArgs
import Derived.Test.YteckfakabaiipaaDoorOpen
namespace Go.Proofs.YteckfakabaiipaaDoor
open Go.RowKit
theorem args_open {H : Type} {enc : TypeId × Value → H} {W : World} {b0 : Nat} (a : Int) (wa : (Lit.int .i64 a).wf = true) {v1 : Value} {d1 : DataW H} {p1 : List MemPlace}
    (k1 : Value.okWide Tryd.prog W .any b0 25 v1) (h1 : DataW.Trod enc Tryd.prog W 0 (fun _ => true) true 25 v1 d1 p1) (hL : laidMetH Tryd.prog Rows.greedyArgsRow.laid W) :
    Calls Tryd.prog 6 #[.int .i64 a, v1] W (RetV (.bool true) W) := by
  obtain ⟨aa, ao, at2, n, c, no, co, nt, ct, budget, m, k, base, zs, off, two, rfl, r0, r5, r6, l0, l5, l6, w1, w2, w3, w4⟩ := case_open k1 h1
  exact args_any a aa ao at2 n c no co nt ct budget m k base off two W r5.shorts r6.shorts (table_in hL) (by unfold maxLen at l0; omega) (wf_i64 w1).2 (wf_i64 wa)
end Go.Proofs.YteckfakabaiipaaDoor
