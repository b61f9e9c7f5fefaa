/- ValueMakes' walk, from what the card gives. -/
import Derived.Test.YtjlpjooaclfnlaaGreatDoorMakes
import Derived.Test.YtjlpjooaclfnlaaGreatDoorOpen
namespace Go.Proofs.YtjlpjooaclfnlaaGreatDoor
open Go.RowKit
set_option maxRecDepth 100000 in
theorem makes_open {H : Type} {enc : TypeId × Value → H} {W : World} {b0 : Nat} (a : Int) (_wa : (Lit.int .i64 a).wf = true) {v : Value} {d : DataW H} {p : List MemPlace}
    (k1 : Value.okWide Tryz.prog W .any b0 22 v) (h1 : DataW.Trod enc Tryz.prog W 0 (fun _ => true) true 22 v d p) (s : ByteArray) {X : Prop} (_ws : X) {Y : Prop} (_hL : Y) :
    Calls Tryz.prog 5 #[.int .i64 a, v, .string s] W (RetT W) := by
  obtain ⟨f, rfl⟩ : ∃ f, v = .float .f64 f := by
    obtain ⟨fuel, hf⟩ := h1
    obtain ⟨f, e, -, -⟩ := trod_float Tryz.underlying22 hf
    cases v <;> simp_all [Value.okWide, Cell.okWide, Cell.ok, Value.cells, Tryz.underlying22]
  exact makes_any a f s W
end Go.Proofs.YtjlpjooaclfnlaaGreatDoor
