/- ValueOrders' walk, from what the card gives. -/
import Derived.Test.YtjlpjooaclfnlaaGreatDoorOrders
namespace Go.Proofs.YtjlpjooaclfnlaaGreatDoor
open Go.RowKit

theorem cmpV_form (op : List UInt8) (K N : Int) (F : Nat) (S : ByteArray) (K2 N2 : Int) (F2 : Nat) (S2 : ByteArray) : ∃ p : Int × Int, cmpV op K N F S K2 N2 F2 S2 = vV p.1 p.2 0 ⟨#[]⟩ := by
  unfold cmpV
  split
  · exact ⟨(0, 0), rfl⟩
  · cases cmpB op (ordC K N F S K2 N2 F2 S2) with
    | none => exact ⟨(0, 0), rfl⟩
    | some x => exact ⟨(4, bZ x), rfl⟩
theorem cmpV_clean (op : List UInt8) (k n : Int) (f : Nat) (s : ByteArray) (k2 n2 : Int) (f2 : Nat) (s2 : ByteArray) :
    cmpV op (clK k) (clN k n) (rclF k f) (clS k s) (clK k2) (clN k2 n2) (rclF k2 f2) (clS k2 s2) = cmpV op (clK k) (clN k n) (clF k f) (clS k s) (clK k2) (clN k2 n2) (clF k2 f2) (clS k2 s2) := by
  unfold cmpV
  rw [ordC_clean]
theorem orders_law (k n : Int) (f : Nat) (s : ByteArray) (k2 n2 : Int) (f2 : Nat) (s2 : ByteArray) (op : ByteArray) (w : World) : Calls Tryz.prog 6 #[vV k n f s, vV k2 n2 f2 s2, .string op] w (RetT w) := by
  obtain ⟨q, hq⟩ := Classical.axiomOfChoice (fun o : ByteArray => cmpV_form o.toList (clK k) (clN k n) (clF k f) (clS k s) (clK k2) (clN k2 n2) (clF k2 f2) (clS k2 s2))
  refine orders_walk k n f s k2 n2 f2 s2 op _ (fun o => (q o).1) (fun o => (q o).2) w (fun W => order_any k n f s k2 n2 f2 s2 W) (fun W => ?_) (fun o W => ?_) (fun o W => ?_)
  · have := rorder_any k n f s k2 n2 f2 s2 W
    rwa [ordC_clean] at this
  · have := compare_any o k n f s k2 n2 f2 s2 W
    rwa [hq o] at this
  · have := rcompare_any o k n f s k2 n2 f2 s2 W
    rwa [cmpV_clean, hq o] at this
set_option maxRecDepth 100000 in
theorem orders_open {H : Type} {enc : TypeId × Value → H} {W : World} {b0 b1 : Nat} {v1 v2 : Value} {d1 d2 : DataW H} {p1 p2 : List MemPlace}
    (k1 : Value.okWide Tryz.prog W .any b0 24 v1) (h1 : DataW.Trod enc Tryz.prog W 0 (fun _ => true) true 24 v1 d1 p1) (k2 : Value.okWide Tryz.prog W .any b1 24 v2) (h2 : DataW.Trod enc Tryz.prog W 0 (fun _ => true) true 24 v2 d2 p2) (op : ByteArray) {Y : Prop} (_ws : Y) {X : Prop} (_hL : X) :
    Calls Tryz.prog 6 #[v1, v2, .string op] W (RetT W) := by
  obtain ⟨k, n, f, s, rfl, _, _⟩ := value_open k1 h1
  obtain ⟨k', n', f', s', rfl, _, _⟩ := value_open k2 h2
  exact orders_law k n f s k' n' f' s' op W
end Go.Proofs.YtjlpjooaclfnlaaGreatDoor
