/- The walk of the statements' own function short. -/
import Derived.Test.YtjlpjooaclfnlaaGreatDoorLives
namespace Go.Proofs.YtjlpjooaclfnlaaGreatDoor
open Go.RowKit

/-- some truth is returned; of what was there nothing turns -/
def SomeB (w : World) (e : Ending) (w' : World) : Prop := (∃ b : Bool, e = .returned (.bool b)) ∧ Below w.heap.size w w'
/-- values that lie in a row, as a slice's elements -/
def Vals (w : World) (g n : Nat) : Prop := g < w.heap.size ∧ ∀ j, j < n → ∃ (k m : Int) (f : Nat) (s : ByteArray), w.cell? ⟨g, j * 4, none⟩ = some (.int .i64 k) ∧ w.cell? ⟨g, j * 4 + 1, none⟩ = some (.int .i64 m) ∧ w.cell? ⟨g, j * 4 + 2, none⟩ = some (.float .f64 f) ∧ w.cell? ⟨g, j * 4 + 3, none⟩ = some (.string s)

set_option maxRecDepth 100000 in
set_option maxHeartbeats 2000000 in
theorem short_any (g n c : Nat) (w : World) (h : Vals w g n) (hn : n ≤ 100) : Calls Tryz.prog 12 #[.slice (some ⟨g, 0, none⟩) n c] w (SomeB w) := by
  have sf := store_float
  have H := Lib.hid h
  clear h
  go_enter Tryz.func12, Tryz.ntmps12
  go_wp2_with fail
  go_loopw [7] (fun i wr => ∃ k : Nat, k ≤ n ∧ i = .int .i64 k ∧ Below w.heap.size w wr) (fun i _ => n - (intOf i).toNat)
  case atStart => exact ⟨0, Nat.zero_le _, rfl, Below.refl _ _⟩
  case round =>
    obtain ⟨k, hk, rfl, hB⟩ := hrel
    obtain ⟨wo, rfl⟩ : ∃ wo : World, wo = wr := ⟨_, rfl⟩
    by_cases hlt : k < n
    · obtain ⟨vk, vn, vf, vs, h0, h1, h2, h3⟩ := H.out.2 k hlt
      have c0 := (hB.cell (p := ⟨g, k * 4, none⟩) H.out.1).trans h0
      have c1 := (hB.cell (p := ⟨g, k * 4 + 1, none⟩) H.out.1).trans h1
      have c2 := (hB.cell (p := ⟨g, k * 4 + 2, none⟩) H.out.1).trans h2
      have c3 := (hB.cell (p := ⟨g, k * 4 + 3, none⟩) H.out.1).trans h3
      have HB := Lib.hid hB
      clear h0 h1 h2 h3 hB
      go_wp2
      · go_ret
        exact ⟨⟨_, rfl⟩, HB.out.alloc HB.out.size _⟩
      · go_roundw
        case rel => exact ⟨k + 1, by omega, by go_num, HB.out.alloc HB.out.size _⟩
        case measure => simp [intOf]; omega
    · go_wp2
      go_ret
      exact ⟨⟨_, rfl⟩, hB⟩
end Go.Proofs.YtjlpjooaclfnlaaGreatDoor
