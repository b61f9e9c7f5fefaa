/- The walk of CostRises, said of the arguments as they come in. -/
import Derived.Test.YtmbhkfjcjklemaaRisesLaw
import Derived.ProofKit
import Derived.OpenShut
import Derived.Lib.SmallJoins
import Derived.Laws.IdiomArrays
namespace Go.Proofs.Ytmbhkfjcjklemaa
open Go.ChangeShapes Go.WideShapes Go.ChangeAt Go.RowKit

theorem open_ints3 {H : Type} {enc : TypeId × Value → H} {P : Program} {w : World} {base b0 : Nat} {spare : Nat → Bool} {held : Bool} {r : Reach} {t e : TypeId} {k : IntKind} {v : Value} {d : DataW H} {p : List MemPlace}
    (ht : P.underlying t = some (.array 3 e)) (he : P.underlying e = some (.int k)) (hce : P.cellsOf e = 1) (hC : P.cellsOf t = 3)
    (hv : Value.okWide P w r b0 t v) (h : DataW.Trod enc P w base spare held t v d p) :
    ∃ x y z : Int, v = .agg #[.int k x, .int k y, .int k z] ∧ (Lit.int k x).wf = true ∧ (Lit.int k y).wf = true ∧ (Lit.int k z).wf = true := by
  obtain ⟨cs, rfl, hsz, _⟩ : ∃ cs, v = .agg cs ∧ cs.size = P.cellsOf t ∧ Row.okWide P w r b0 t cs := by
    simpa [Value.okWide, ht] using hv
  obtain ⟨c0, c1, c2, rfl⟩ := Go.Joins.array3 (hsz.trans hC)
  obtain ⟨fuel, hf⟩ := h
  obtain ⟨y0, y1, y2, m, hx, hy0, hy1, hy2⟩ := trod_array3 ht hce hf
  obtain ⟨x0, e0, rfl, w0⟩ := DataW.trod_int he hy0
  obtain ⟨x1, e1, rfl, w1⟩ := DataW.trod_int he hy1
  obtain ⟨x2, e2, rfl, w2⟩ := DataW.trod_int he hy2
  simp at e0 e1 e2
  subst e0 e1 e2
  exact ⟨x0, x1, x2, rfl, w0, w1, w2⟩

theorem rises_open {H : Type} {enc : TypeId × Value → H} {v0 v1 : Value} {d0 d1 : DataW H} {p0 p1 : List MemPlace} {W : World} {b0 : Nat}
    (k0 : Value.okWide Try.prog W .any b0 31 v0) (h0 : DataW.Trod enc Try.prog W 0 (fun _ => true) true 31 v0 d0 p0)
    (k1 : Value.okWide Try.prog W .any b0 33 v1) (h1 : DataW.Trod enc Try.prog W 0 (fun _ => true) true 33 v1 d1 p1) (c : Int) :
    Calls Try.prog 7 #[v0, v1, .int .i64 c] W (RetT W) := by
  obtain ⟨x, y, z, rfl, wx, wy, wz⟩ := open_ints3 Try.underlying31 Try.underlying2 (by kernel_rfl) (by kernel_rfl) k0 h0
  obtain ⟨a, b, e, rfl, wa, wb, we⟩ := open_ints3 Try.underlying33 Try.underlying32 (by kernel_rfl) (by kernel_rfl) k1 h1
  have bx := bounds_i64 wx; have by' := bounds_i64 wy; have bz := bounds_i64 wz
  have ba := bounds_u32 wa; have bb := bounds_u32 wb; have be := bounds_u32 we
  exact rises_any x y z a b e c W bx.1 ba.1 ba.2 by'.1 bb.1 bb.2 bz.1 be.1 be.2
end Go.Proofs.Ytmbhkfjcjklemaa
