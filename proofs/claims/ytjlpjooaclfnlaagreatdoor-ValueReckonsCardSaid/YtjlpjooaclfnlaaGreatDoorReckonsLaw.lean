/- ValueReckons' walk, from what the card gives. -/
import Derived.Test.YtjlpjooaclfnlaaGreatDoorReckons
import Derived.Test.YtjlpjooaclfnlaaGreatDoorOpen
namespace Go.Proofs.YtjlpjooaclfnlaaGreatDoor
open Go.RowKit

theorem sum_nan (x y : Ieee.Datum) (h : ¬ Num x ∨ ¬ Num y) : x.sum y = none := by
  cases x <;> cases y <;> first
    | rfl
    | (exfalso; rcases h with h | h <;> exact h (fun _ _ => by intro g; cases g))
theorem product_nan (x y : Ieee.Datum) (h : ¬ Num x ∨ ¬ Num y) : x.product y = none := by
  cases x <;> cases y <;> first
    | rfl
    | (exfalso; rcases h with h | h <;> exact h (fun _ _ => by intro g; cases g))
theorem opposite_num (x : Ieee.Datum) (h : Num x.opposite) : Num x := by
  cases x with
  | nan a b => exact absurd rfl (h _ _)
  | infinity a => intro _ _ g; cases g
  | number a b c => intro _ _ g; cases g
theorem bits_nan (op : BinOp) (hop : op = .add ∨ op = .sub ∨ op = .mul) (x y : Nat) (h : feq x x = false ∨ feq y y = false) : floatBits op .f64 x y = none := by
  have h' : ¬ Num (Ieee.double.read x) ∨ ¬ Num (Ieee.double.read y) := h.imp (fun h g => by rw [(feq_num x).2 g] at h; cases h) (fun h g => by rw [(feq_num y).2 g] at h; cases h)
  rcases hop with rfl | rfl | rfl
  · show ((Ieee.double.read x).sum (Ieee.double.read y)).map _ = none
    rw [sum_nan _ _ h']; rfl
  · show ((Ieee.double.read x).sum (Ieee.double.read y).opposite).map _ = none
    rw [sum_nan _ _ (h'.imp id (fun h g => h (opposite_num _ g)))]; rfl
  · show ((Ieee.double.read x).product (Ieee.double.read y)).map _ = none
    rw [product_nan _ _ h']; rfl
theorem bits_like (op : BinOp) (hop : op = .add ∨ op = .sub ∨ op = .mul) {F G F2 G2 : Nat} (h : Like F G) (h2 : Like F2 G2) : floatBits op .f64 F F2 = floatBits op .f64 G G2 := by
  rcases h with ⟨rfl, h⟩ | ⟨h, g⟩
  · rcases h2 with ⟨rfl, h2⟩ | ⟨h2, g2⟩
    · rfl
    · rw [bits_nan op hop _ _ (.inr h2), bits_nan op hop _ _ (.inr g2)]
  · rw [bits_nan op hop _ _ (.inl h), bits_nan op hop _ _ (.inl g)]
theorem cl_like (k : Int) (f : Nat) : Like (clF k f) (rclF k f) := by
  by_cases h : k = 2
  · subst h; exact realZ_like f
  · unfold clF rclF
    rw [if_neg h, if_neg h]
    exact like_zero
theorem arV_like (op : List UInt8) (K N : Int) (F G : Nat) (K2 N2 : Int) (F2 G2 : Nat) (h : Like F G) (h2 : Like F2 G2) : arV op K N F K2 N2 F2 = arV op K N G K2 N2 G2 := by
  have e : arF op F F2 = arF op G G2 := by
    unfold arF
    rw [bits_like .add (by decide) h h2, bits_like .sub (by decide) h h2, bits_like .mul (by decide) h h2]
  unfold arV
  rw [e]
theorem realZ_neg_like {F G : Nat} (h : Like F G) : realZ (negB F) = realZ (negB G) := by
  rcases h with ⟨rfl, h⟩ | ⟨h, g⟩
  · rfl
  · rw [realZ_nan (by rw [negB_num]; exact h), realZ_nan (by rw [negB_num]; exact g)]
theorem negV_like (K N : Int) {F G : Nat} (h : Like F G) : negV K N F = negV K N G := by
  unfold negV
  rw [realZ_neg_like h]
theorem numV_form (o : Option Int) : ∃ q : Int × Int × Nat, numV o = vV q.1 q.2.1 q.2.2 ⟨#[]⟩ := by
  cases o with
  | none => exact ⟨(0, 0, 0), rfl⟩
  | some x => exact ⟨(1, x, 0), rfl⟩
theorem realV_form (o : Option Nat) : ∃ q : Int × Int × Nat, realV o = vV q.1 q.2.1 q.2.2 ⟨#[]⟩ := by
  cases o with
  | none => exact ⟨(0, 0, 0), rfl⟩
  | some x => exact ⟨(2, 0, realZ x), rfl⟩
theorem arV_form (op : List UInt8) (K N : Int) (F : Nat) (K2 N2 : Int) (F2 : Nat) : ∃ q : Int × Int × Nat, arV op K N F K2 N2 F2 = vV q.1 q.2.1 q.2.2 ⟨#[]⟩ := by
  unfold arV
  split
  · exact numV_form _
  · split
    · exact realV_form _
    · exact ⟨(0, 0, 0), rfl⟩
theorem negV_form (K N : Int) (F : Nat) : ∃ q : Int × Int × Nat, negV K N F = vV q.1 q.2.1 q.2.2 ⟨#[]⟩ := by
  unfold negV
  split
  · exact ⟨(2, 0, _), rfl⟩
  · split
    · exact numV_form _
    · exact ⟨(0, 0, 0), rfl⟩
theorem retLike_of {q : Int × Int × Nat} {v : Value} (hv : v = vV q.1 q.2.1 q.2.2 ⟨#[]⟩) {w w' : World} {e : Ending} (h : RetA v w e w') : RetLike q.1 q.2.1 q.2.2 w e w' := by
  obtain ⟨K, M, F, g, h1, h2, h3, h4⟩ := h
  rw [hv] at h1
  injection h1 with h1
  have := congrArg Array.toList h1
  simp only [List.cons.injEq, Value.int.injEq, Value.float.injEq, true_and, and_true] at this
  obtain ⟨rfl, rfl, rfl⟩ := this
  exact ⟨g, h2, h3, h4⟩
theorem reckons_law (k n : Int) (f : Nat) (s : ByteArray) (k2 n2 : Int) (f2 : Nat) (s2 : ByteArray) (op : ByteArray) (w : World) (hn : In64 n) (hn2 : In64 n2) : Calls Tryz.prog 8 #[vV k n f s, vV k2 n2 f2 s2, .string op] w (RetT w) := by
  obtain ⟨q, hq⟩ := Classical.axiomOfChoice (fun o : ByteArray => arV_form o.toList (clK k) (clN k n) (clF k f) (clK k2) (clN k2 n2) (clF k2 f2))
  obtain ⟨p, hp⟩ := negV_form (clK k) (clN k n) (clF k f)
  refine reckons_walk k n f s k2 n2 f2 s2 op (fun o => (q o).1) (fun o => (q o).2.1) (fun o => (q o).2.2) p.1 p.2.1 p.2.2 w (fun o W => ?_) (fun o W => ?_) (fun W => ?_) (fun W => ?_)
  · have := arith_any o k n f s k2 n2 f2 s2 W hn hn2
    rwa [hq o] at this
  · exact (rarith_walk o k n f s k2 n2 f2 s2 W hn hn2).mono fun e w' h => retLike_of ((arV_like _ _ _ _ _ _ _ _ _ (cl_like k f) (cl_like k2 f2)).symm.trans (hq o)) h
  · have := neg_any k n f s W hn
    rwa [hp] at this
  · exact (rneg_any k n f s W hn).mono fun e w' h => retLike_of ((negV_like _ _ (cl_like k f)).symm.trans hp) h
set_option maxRecDepth 100000 in
theorem reckons_open {H : Type} {enc : TypeId × Value → H} {W : World} {b0 b1 : Nat} {v1 v2 : Value} {d1 d2 : DataW H} {p1 p2 : List MemPlace}
    (k1 : Value.okWide Tryz.prog W .any b0 24 v1) (h1 : DataW.Trod enc Tryz.prog W 0 (fun _ => true) true 24 v1 d1 p1) (k2 : Value.okWide Tryz.prog W .any b1 24 v2) (h2 : DataW.Trod enc Tryz.prog W 0 (fun _ => true) true 24 v2 d2 p2) (op : ByteArray) {Y : Prop} (_ws : Y) {X : Prop} (_hL : X) :
    Calls Tryz.prog 8 #[v1, v2, .string op] W (RetT W) := by
  obtain ⟨k, n, f, s, rfl, hx, hy⟩ := value_open k1 h1
  obtain ⟨k', n', f', s', rfl, hx', hy'⟩ := value_open k2 h2
  exact reckons_law k n f s k' n' f' s' op W hy hy'
end Go.Proofs.YtjlpjooaclfnlaaGreatDoor
