/- ValueRules' walk, from what the card gives. -/
import Derived.Test.YtjlpjooaclfnlaaGreatDoorRules
import Derived.Test.YtjlpjooaclfnlaaGreatDoorOpen
namespace Go.Proofs.YtjlpjooaclfnlaaGreatDoor
open Go.RowKit

theorem truth_three' (t : Int) (h : -1 ≤ t ∧ t ≤ 1) : t = -1 ∨ t = 0 ∨ t = 1 := by omega
theorem andT_bd (x y : Int) : -1 ≤ andT x y ∧ andT x y ≤ 1 := by unfold andT; (repeat' split) <;> omega
theorem notT_bd (x : Int) (h : -1 ≤ x ∧ x ≤ 1) : -1 ≤ notT x ∧ notT x ≤ 1 := by unfold notT; split <;> omega
theorem orT_bd (x y : Int) : -1 ≤ orT x y ∧ orT x y ≤ 1 := notT_bd _ (andT_bd _ _)
theorem rules_plain (x y z : Int) (hx : -1 ≤ x ∧ x ≤ 1) (hy : -1 ≤ y ∧ y ≤ 1) (hz : -1 ≤ z ∧ z ≤ 1) :
    orT (andT x y) (andT x z) = andT x (orT y z) ∧ orT (notT x) (notT y) = notT (andT x y) ∧ andT y x = andT x y := by
  rcases truth_three' x hx with rfl | rfl | rfl <;> rcases truth_three' y hy with rfl | rfl | rfl <;> rcases truth_three' z hz with rfl | rfl | rfl <;> decide
theorem rules_law (k n : Int) (f : Nat) (s : ByteArray) (k2 n2 : Int) (f2 : Nat) (s2 : ByteArray) (k3 n3 : Int) (f3 : Nat) (s3 : ByteArray) (w : World) :
    Calls Tryz.prog 10 #[vV k n f s, vV k2 n2 f2 s2, vV k3 n3 f3 s3] w (RetT w) := by
  have hx := truthZ_bd k n
  have hy := truthZ_bd k2 n2
  have hz := truthZ_bd k3 n3
  obtain ⟨e1, e2, e3⟩ := rules_plain _ _ _ hx hy hz
  refine rules_walk k n f s k2 n2 f2 s2 k3 n3 f3 s3 (ofK (orT (truthZ k2 n2) (truthZ k3 n3))) (ofN (orT (truthZ k2 n2) (truthZ k3 n3))) (ofK (andT (truthZ k n) (orT (truthZ k2 n2) (truthZ k3 n3)))) (ofN (andT (truthZ k n) (orT (truthZ k2 n2) (truthZ k3 n3))))
    (ofK (andT (truthZ k n) (truthZ k2 n2))) (ofN (andT (truthZ k n) (truthZ k2 n2))) (ofK (andT (truthZ k n) (truthZ k3 n3))) (ofN (andT (truthZ k n) (truthZ k3 n3))) (ofK (notT (andT (truthZ k n) (truthZ k2 n2)))) (ofN (notT (andT (truthZ k n) (truthZ k2 n2))))
    (ofK (notT (truthZ k n))) (ofN (notT (truthZ k n))) (ofK (notT (truthZ k2 n2))) (ofN (notT (truthZ k2 n2))) w
    (fun W => or_any k2 n2 f2 s2 k3 n3 f3 s3 W) (fun W => ?_) (fun W => and_any k n f s k2 n2 f2 s2 W) (fun W => and_any k n f s k3 n3 f3 s3 W) (fun W => ?_) (fun W => ?_) (fun W => notT_any k n f s W) (fun W => notT_any k2 n2 f2 s2 W) (fun W => ?_) (fun W => ?_)
  · have := and_any k n f s (ofK (orT (truthZ k2 n2) (truthZ k3 n3))) (ofN (orT (truthZ k2 n2) (truthZ k3 n3))) 0 ⟨#[]⟩ W
    rwa [truth_of _ (orT_bd _ _)] at this
  · have := or_any (ofK (andT (truthZ k n) (truthZ k2 n2))) (ofN (andT (truthZ k n) (truthZ k2 n2))) 0 ⟨#[]⟩ (ofK (andT (truthZ k n) (truthZ k3 n3))) (ofN (andT (truthZ k n) (truthZ k3 n3))) 0 ⟨#[]⟩ W
    rwa [truth_of _ (andT_bd _ _), truth_of _ (andT_bd _ _), e1] at this
  · have := notT_any (ofK (andT (truthZ k n) (truthZ k2 n2))) (ofN (andT (truthZ k n) (truthZ k2 n2))) 0 ⟨#[]⟩ W
    rwa [truth_of _ (andT_bd _ _)] at this
  · have := or_any (ofK (notT (truthZ k n))) (ofN (notT (truthZ k n))) 0 ⟨#[]⟩ (ofK (notT (truthZ k2 n2))) (ofN (notT (truthZ k2 n2))) 0 ⟨#[]⟩ W
    rwa [truth_of _ (notT_bd _ hx), truth_of _ (notT_bd _ hy), e2] at this
  · have := and_any k2 n2 f2 s2 k n f s W
    rwa [e3] at this
set_option maxRecDepth 100000 in
theorem rules_open {H : Type} {enc : TypeId × Value → H} {W : World} {b0 b1 b2 : Nat} {v1 v2 v3 : Value} {d1 d2 d3 : DataW H} {p1 p2 p3 : List MemPlace}
    (k1 : Value.okWide Tryz.prog W .any b0 24 v1) (h1 : DataW.Trod enc Tryz.prog W 0 (fun _ => true) true 24 v1 d1 p1) (k2 : Value.okWide Tryz.prog W .any b1 24 v2) (h2 : DataW.Trod enc Tryz.prog W 0 (fun _ => true) true 24 v2 d2 p2)
    (k3 : Value.okWide Tryz.prog W .any b2 24 v3) (h3 : DataW.Trod enc Tryz.prog W 0 (fun _ => true) true 24 v3 d3 p3) {X : Prop} (_hL : X) :
    Calls Tryz.prog 10 #[v1, v2, v3] W (RetT W) := by
  obtain ⟨k, n, f, s, rfl, _, _⟩ := value_open k1 h1
  obtain ⟨k', n', f', s', rfl, _, _⟩ := value_open k2 h2
  obtain ⟨k'', n'', f'', s'', rfl, _, _⟩ := value_open k3 h3
  exact rules_law k n f s k' n' f' s' k'' n'' f'' s'' W
end Go.Proofs.YtjlpjooaclfnlaaGreatDoor
