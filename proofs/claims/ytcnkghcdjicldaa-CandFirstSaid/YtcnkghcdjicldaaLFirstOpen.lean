/- The walk of CandFirst, said of the arguments as they come in. -/
import Derived.Test.YtcnkghcdjicldaaLFirst
import Derived.Test.YtcnkghcdjicldaaOpenQs
namespace Go.Proofs.Ytcnkghcdjicldaa
open Go.RowKit
theorem candFirst_open {H : Type} {enc : TypeId × Value → H} {W : World} {b0 : Nat} {v : Value} {d : DataW H} {p : List MemPlace} (k1 : Value.okWide Try.prog W .any b0 32 v) (h1 : DataW.Trod enc Try.prog W 0 (fun _ => true) true 32 v d p) (most : Int) :
    Calls Try.prog 6 #[v, .int .i64 most] W (RetT W) := by
  obtain ⟨A, c, qs, rfl, hq⟩ := queries_open k1 h1
  exact candFirst_walk A c qs most W hq
end Go.Proofs.Ytcnkghcdjicldaa
