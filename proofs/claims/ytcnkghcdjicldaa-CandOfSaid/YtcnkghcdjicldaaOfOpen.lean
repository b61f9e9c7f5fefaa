/- The walk of CandOf, said of the argument as it comes in. -/
import Derived.Test.YtcnkghcdjicldaaLaw2
import Derived.Test.YtcnkghcdjicldaaOpen
namespace Go.Proofs.Ytcnkghcdjicldaa
open Go.RowKit
theorem candOf_open {H : Type} {enc : TypeId × Value → H} {W : World} {b0 : Nat} {v : Value} {d : DataW H} {p : List MemPlace} (k1 : Value.okWide Try.prog W .any b0 26 v) (h1 : DataW.Trod enc Try.prog W 0 (fun _ => true) true 26 v d p) :
    Calls Try.prog 3 #[v] W (RetT W) := by
  obtain ⟨q, rfl, hq⟩ := query_open k1 h1
  exact candOf_walk q W hq
end Go.Proofs.Ytcnkghcdjicldaa
