/- ValueTruths' walk, from what the card gives. -/
import Derived.Test.YtjlpjooaclfnlaaGreatDoorTruths
import Derived.Test.YtjlpjooaclfnlaaGreatDoorOpen
namespace Go.Proofs.YtjlpjooaclfnlaaGreatDoor
open Go.RowKit

/-- a truth of one kind as the other's -/
theorem truth_two (k n : Int) : truthR k n = truthZ k n + 1 ∨ (truthR k n = 1 ∧ truthZ k n = -1) ∨ (truthR k n = 0 ∧ truthZ k n = 0) := by
  unfold truthR truthZ; (repeat' split) <;> omega
theorem truth_three (k n : Int) : (truthZ k n = -1 ∧ truthR k n = 1) ∨ (truthZ k n = 0 ∧ truthR k n = 0) ∨ (truthZ k n = 1 ∧ truthR k n = 2) := by
  unfold truthR truthZ; (repeat' split) <;> omega
theorem truths_law (k n : Int) (f : Nat) (s : ByteArray) (k2 n2 : Int) (f2 : Nat) (s2 : ByteArray) (w : World) : Calls Tryz.prog 9 #[vV k n f s, vV k2 n2 f2 s2] w (RetT w) := by
  have h32 := fun W => true_any k n f s W
  have h33 := fun W => rtruth_any k n (.float .f64 f) (.string s) W
  have h34 := fun W => notT_any k n f s W
  have h35 := fun W => rnot_any k n f s W
  have h36 := fun W => and_any k n f s k2 n2 f2 s2 W
  have h37 := fun W => rand_any k n f s k2 n2 f2 s2 W
  have h38 := fun W => or_any k n f s k2 n2 f2 s2 W
  have h39 := fun W => ror_any k n f s k2 n2 f2 s2 W
  simp only [rof_eq] at h35 h37 h39
  rcases truth_three k n with ⟨e1, e2⟩ | ⟨e1, e2⟩ | ⟨e1, e2⟩ <;> rcases truth_three k2 n2 with ⟨e3, e4⟩ | ⟨e3, e4⟩ | ⟨e3, e4⟩ <;>
    simp only [e1, e2, e3, e4] at h32 h33 h34 h35 h36 h37 h38 h39 <;>
    exact truths_any k n f s k2 n2 f2 s2 _ _ _ _ _ _ _ _ (by decide) h32 h33 h34 h35 h36 h37 h38 h39 w
set_option maxRecDepth 100000 in
theorem truths_open {H : Type} {enc : TypeId × Value → H} {W : World} {b0 b1 : Nat} {v1 v2 : Value} {d1 d2 : DataW H} {p1 p2 : List MemPlace}
    (k1 : Value.okWide Tryz.prog W .any b0 24 v1) (h1 : DataW.Trod enc Tryz.prog W 0 (fun _ => true) true 24 v1 d1 p1) (k2 : Value.okWide Tryz.prog W .any b1 24 v2) (h2 : DataW.Trod enc Tryz.prog W 0 (fun _ => true) true 24 v2 d2 p2) {X : Prop} (_hL : X) :
    Calls Tryz.prog 9 #[v1, v2] W (RetT W) := by
  obtain ⟨k, n, f, s, rfl, _, _⟩ := value_open k1 h1
  obtain ⟨k', n', f', s', rfl, _, _⟩ := value_open k2 h2
  exact truths_law k n f s k' n' f' s' W
end Go.Proofs.YtjlpjooaclfnlaaGreatDoor
