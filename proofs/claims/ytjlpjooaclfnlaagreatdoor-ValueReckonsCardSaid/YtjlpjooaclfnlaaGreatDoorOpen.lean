/- A value, opened: what a parameter reads as. -/
import Derived.Test.YtjlpjooaclfnlaaGreatDoorArith
import Derived.ChangeSlices
import Derived.WideShapes
import Derived.OpenShut
namespace Go.Proofs.YtjlpjooaclfnlaaGreatDoor
open Go.RowKit Go.ChangeShapes Go.WideShapes

theorem cells2 : Tryz.prog.cellsOf 2 = 1 := by kernel_rfl
theorem cells3 : Tryz.prog.cellsOf 3 = 1 := by kernel_rfl
theorem cells9 : Tryz.prog.cellsOf 9 = 1 := by kernel_rfl
theorem cells22 : Tryz.prog.cellsOf 22 = 1 := by kernel_rfl
theorem cells24 : Tryz.prog.cellsOf 24 = 4 := by kernel_rfl

theorem wf_i64 {x : Int} (h : (Lit.int .i64 x).wf = true) : In64 x := by
  unfold In64
  simp [Lit.wf, IntKind.min, IntKind.max, IntKind.signed, IntKind.bits] at h; omega
theorem trod_float {P : Program} {t : TypeId} {k : FloatKind} {H : Type} {enc : TypeId × Value → H} {w : World} {base : Nat} {sp : Nat → Bool} {held : Bool} {fuel : Nat} {cs : List Value} {x : DataW H × List MemPlace}
    (ht : P.underlying t = some (.float k)) (h : DataW.trod enc P w base sp held fuel t cs = some x) : ∃ n, cs = [.float k n] ∧ x = (.lit (.float k n), []) ∧ (Lit.float k n).wf = true := by
  cases fuel with
  | zero => simp [DataW.trod] at h
  | succ n =>
    unfold DataW.trod at h
    rw [ht] at h
    split at h <;> simp_all

set_option maxRecDepth 100000 in
theorem value_row {H : Type} {enc : TypeId × Value → H} {W : World} {fuel : Nat} {l : List Value} {x : DataW H × List MemPlace} (hl4 : l.length = 4)
    (hf : DataW.trod enc Tryz.prog W 0 (fun _ => true) true fuel 24 l = some x) :
    ∃ (k n : Int) (f : Nat) (s : ByteArray), l = [.int .i64 k, .int .i64 n, .float .f64 f, .string s] ∧ In64 k ∧ In64 n := by
  obtain ⟨xs, n, _, _, hl, hlen, hfs⟩ := DataW.trod_struct Tryz.underlying24 hf
  match l, hl4 with
  | [c0, c1, c2, c3], _ =>
    match xs, hlen with
    | [x0, x1, x2, x3], _ =>
      have g0 : DataW.trod enc Tryz.prog W 0 (fun _ => true) true n 3 (([c0, c1, c2, c3].drop 0).take (Tryz.prog.cellsOf 3)) = some x0 := hfs 0 _ rfl
      rw [cells3] at g0
      have g1 : DataW.trod enc Tryz.prog W 0 (fun _ => true) true n 2 (([c0, c1, c2, c3].drop 1).take (Tryz.prog.cellsOf 2)) = some x1 := hfs 1 _ rfl
      rw [cells2] at g1
      have g2 : DataW.trod enc Tryz.prog W 0 (fun _ => true) true n 22 (([c0, c1, c2, c3].drop 2).take (Tryz.prog.cellsOf 22)) = some x2 := hfs 2 _ rfl
      rw [cells22] at g2
      have g3 : DataW.trod enc Tryz.prog W 0 (fun _ => true) true n 9 (([c0, c1, c2, c3].drop 3).take (Tryz.prog.cellsOf 9)) = some x3 := hfs 3 _ rfl
      rw [cells9] at g3
      obtain ⟨k, e0, _, w0⟩ := DataW.trod_int Tryz.underlying3 g0
      obtain ⟨m, e1, _, w1⟩ := DataW.trod_int Tryz.underlying2 g1
      obtain ⟨f, e2, _, _⟩ := trod_float Tryz.underlying22 g2
      obtain ⟨s, e3, _, _⟩ := DataW.trod_string Tryz.underlying9 g3
      cases (show [c0] = [_] from e0)
      cases (show [c1] = [_] from e1)
      cases (show [c2] = [_] from e2)
      cases (show [c3] = [_] from e3)
      exact ⟨k, m, f, s, rfl, wf_i64 w0, wf_i64 w1⟩

set_option maxRecDepth 100000 in
theorem value_open {H : Type} {enc : TypeId × Value → H} {W : World} {b0 : Nat} {v : Value} {d : DataW H} {p : List MemPlace}
    (k1 : Value.okWide Tryz.prog W .any b0 24 v) (h1 : DataW.Trod enc Tryz.prog W 0 (fun _ => true) true 24 v d p) :
    ∃ (k n : Int) (f : Nat) (s : ByteArray), v = vV k n f s ∧ In64 k ∧ In64 n := by
  obtain ⟨cs, rfl, hsz⟩ := okWide_struct Tryz.underlying24 k1
  obtain ⟨fuel, hf⟩ := h1
  rw [cells24] at hsz
  obtain ⟨l⟩ := cs
  obtain ⟨k, n, f, s, rfl, h2, h3⟩ := value_row (l := l) hsz hf
  exact ⟨k, n, f, s, rfl, h2, h3⟩
end Go.Proofs.YtjlpjooaclfnlaaGreatDoor
