/- A slice of queries, opened. -/
import Derived.Test.YtcnkghcdjicldaaOpen
import Derived.Test.YtcnkghcdjicldaaAll
namespace Go.Proofs.Ytcnkghcdjicldaa
open Go.RowKit Go.ChangeShapes Go.WideShapes

theorem queries_open {H : Type} {enc : TypeId × Value → H} {W : World} {b0 : Nat} {v : Value} {d : DataW H} {p : List MemPlace} (k1 : Value.okWide Try.prog W .any b0 32 v) (h1 : DataW.Trod enc Try.prog W 0 (fun _ => true) true 32 v d p) : ∃ A c qs, v = .slice A qs.length c ∧ QsAt W A qs := by
  obtain ⟨a, len, cap, rfl⟩ := okWide_slice Try.underlying32 k1
  obtain ⟨fuel, hf⟩ := h1
  obtain ⟨A, c, l, e, h2, h3, h4⟩ := open_elems (α := Qd) Try.underlying32 cells26 (by omega) (fun q cs' => cs' = q.cells.toList ∧ QAt W q) hf (fun n cs' y _ hy hl => open_query hy hl)
  refine ⟨A, c, l, ?_, Nat.le_trans h2 h3, h4.imp id fun ⟨b, off, g1, g2, g3⟩ => ⟨b, off, g1, g2, fun j q hq => ?_⟩⟩
  · cases (show [Value.slice a len cap] = [_] from e)
    rfl
  · obtain ⟨cs', ⟨rfl, h5⟩, g4⟩ := g3 j q hq
    exact ⟨fun i v hv => g4 i v hv, h5⟩
end Go.Proofs.Ytcnkghcdjicldaa
