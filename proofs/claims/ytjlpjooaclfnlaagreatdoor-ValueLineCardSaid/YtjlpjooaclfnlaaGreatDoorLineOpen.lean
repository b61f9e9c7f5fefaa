/- ValueLine's walk, from what the card gives. -/
import Derived.Test.YtjlpjooaclfnlaaGreatDoorLine
import Derived.Test.YtjlpjooaclfnlaaGreatDoorLineLaw
import Derived.Test.YtjlpjooaclfnlaaGreatDoorOpen
namespace Go.Proofs.YtjlpjooaclfnlaaGreatDoor
open Go.RowKit Go.ChangeShapes Go.WideShapes

theorem line_law (k n : Int) (f : Nat) (s : ByteArray) (k2 n2 : Int) (f2 : Nat) (s2 : ByteArray) (k3 n3 : Int) (f3 : Nat) (s3 : ByteArray) (w : World) :
    Calls Tryz.prog 3 #[.agg #[.int .i64 k, .int .i64 n, .float .f64 f, .string s, .int .i64 k2, .int .i64 n2, .float .f64 f2, .string s2, .int .i64 k3, .int .i64 n3, .float .f64 f3, .string s3]] w (RetT w) := by
  refine line_walk k n f s k2 n2 f2 s2 k3 n3 f3 s3 _ _ _ w (ordC_bd _ _ _ _ _ _ _ _) (fun h1 h2 => ordC_trans _ _ _ _ _ _ _ _ _ _ _ _ h1 h2) (fun W => order_any k n f s k2 n2 f2 s2 W) (fun W => order_any k2 n2 f2 s2 k3 n3 f3 s3 W) (fun W => order_any k n f s k3 n3 f3 s3 W) (fun W => ?_) (fun W => ?_)
  · have := order_any k n f s k n f s W
    rwa [ordC_self] at this
  · have := order_any k2 n2 f2 s2 k n f s W
    rwa [ordC_swap] at this
theorem cells25 : Tryz.prog.cellsOf 25 = 12 := by kernel_rfl
theorem okWide_array3 {P : Program} {w : World} {r : Reach} {base : Nat} {t e : TypeId} {n : Nat} {v : Value} (ht : P.underlying t = some (.array n e)) (h : Value.okWide P w r base t v) : ∃ cs, v = .agg cs ∧ cs.size = P.cellsOf t := by
  simp only [Value.okWide, ht] at h
  obtain ⟨cs, h1, h2, _⟩ := h
  exact ⟨cs, h1, h2⟩
set_option maxRecDepth 100000 in
theorem line_open {H : Type} {enc : TypeId × Value → H} {W : World} {b0 : Nat} {v : Value} {d : DataW H} {p : List MemPlace}
    (k1 : Value.okWide Tryz.prog W .any b0 25 v) (h1 : DataW.Trod enc Tryz.prog W 0 (fun _ => true) true 25 v d p) {X : Prop} (_hL : X) :
    Calls Tryz.prog 3 #[v] W (RetT W) := by
  obtain ⟨cs, rfl, hsz⟩ := okWide_array3 Tryz.underlying25 k1
  obtain ⟨fuel, hf⟩ := h1
  rw [cells25] at hsz
  obtain ⟨l⟩ := cs
  have hl : l.length = 12 := hsz
  obtain ⟨xs, m, -, -, -, hlen, hfs⟩ := DataW.trod_array Tryz.underlying25 hf
  match l, hl with
  | [c0, c1, c2, c3, c4, c5, c6, c7, c8, c9, c10, c11], _ =>
    match xs, hlen with
    | [x0, x1, x2], _ =>
      have g0 : DataW.trod enc Tryz.prog W 0 (fun _ => true) true m 24 (([c0, c1, c2, c3, c4, c5, c6, c7, c8, c9, c10, c11].drop (0 * Tryz.prog.cellsOf 24)).take (Tryz.prog.cellsOf 24)) = some x0 := hfs 0 (by omega)
      have g1 : DataW.trod enc Tryz.prog W 0 (fun _ => true) true m 24 (([c0, c1, c2, c3, c4, c5, c6, c7, c8, c9, c10, c11].drop (1 * Tryz.prog.cellsOf 24)).take (Tryz.prog.cellsOf 24)) = some x1 := hfs 1 (by omega)
      have g2 : DataW.trod enc Tryz.prog W 0 (fun _ => true) true m 24 (([c0, c1, c2, c3, c4, c5, c6, c7, c8, c9, c10, c11].drop (2 * Tryz.prog.cellsOf 24)).take (Tryz.prog.cellsOf 24)) = some x2 := hfs 2 (by omega)
      rw [cells24] at g0 g1 g2
      obtain ⟨k, n, f, s, e0, -, -⟩ := value_row (l := [c0, c1, c2, c3]) rfl g0
      obtain ⟨k2, n2, f2, s2, e1, -, -⟩ := value_row (l := [c4, c5, c6, c7]) rfl g1
      obtain ⟨k3, n3, f3, s3, e2, -, -⟩ := value_row (l := [c8, c9, c10, c11]) rfl g2
      cases e0; cases e1; cases e2
      exact line_law k n f s k2 n2 f2 s2 k3 n3 f3 s3 W
end Go.Proofs.YtjlpjooaclfnlaaGreatDoor
