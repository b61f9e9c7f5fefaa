/- Bytes that a call builds, beside digits that lie in a block of their own. -/
import Derived.Test.YtoafiombpokpaaaGreatDoorUscD
import Derived.Test.YtoafiombpokpaaaGreatDoorFmtP
import Derived.Maps.AppendAt
import Derived.OwnWalk
import Derived.Lib.AppendStr
namespace Go.Proofs.YtoafiombpokpaaaGreatDoor
open Go.RowKit

def byV (c : UInt8) : Value := .int .u8 (c.toNat : Int)
/-- bytes in a row of the call's own -/
def OwnB (W : World) (base : Nat) (v : Value) (l : List UInt8) : Prop := W.ownsRow base 5 1 v l.length (l.map byV)
theorem info_parts {e K B : Nat} {z : Value} (h : (Tryz.prog.info? e).map (fun i => (i.zero, i.size, i.bytes)) = some (some z, K, B)) : ∃ i0, Tryz.prog.info? e = some i0 ∧ i0.zero = some z ∧ i0.size = K ∧ i0.bytes = B := by
  cases hi : Tryz.prog.info? e with
  | none => rw [hi] at h; cases h
  | some i =>
    rw [hi] at h
    have h2 := Option.some.inj h
    exact ⟨i, rfl, congrArg Prod.fst h2, congrArg (·.2.1) h2, congrArg (·.2.2) h2⟩
theorem infoB : (Tryz.prog.info? 5).map (fun i => (i.zero, i.size, i.bytes)) = some (some (.int .u8 0), 1, 1) := by kernel_rfl
theorem own_grown {W W' : World} {base e K n : Nat} {v : Value} {xs : List Value} (h : W.ownsRow base e K v n xs) {r : Option Nat} (hg : W.grownBy W' r) (hr : ∀ b, v.ownBlock = some b → some b ≠ r) : W'.ownsRow base e K v n xs :=
  ⟨h.1, h.2.imp id fun ⟨g, cap, cur, e1, e2, e3, e4⟩ => ⟨g, cap, cur, e1, e2, (hg.block _ (heap_lt e3) (hr g (by rw [e1]; rfl))).trans e3, e4⟩⟩
theorem own_kept {w w' : World} {base e size n B : Nat} {v : Value} {xs : List Value} (h : w.ownsRow base e size v n xs) (hB : Below B w w') (hw : w.heap.size ≤ B) : w'.ownsRow base e size v n xs := by
  obtain ⟨h1, h2⟩ := h
  refine ⟨h1, h2.imp id fun ⟨g, cap, cur, e1, e2, e3, e4⟩ => ⟨g, cap, cur, e1, e2, ?_, e4⟩⟩
  have hlt : g < w.heap.size := heap_lt e3
  exact (hB.block g (by omega)).trans e3
theorem own_base {w : World} {base e K n : Nat} {v : Value} {xs : List Value} (h : w.ownsRow base e K v n xs) : ∀ b, v.ownBlock = some b → base ≤ b ∧ b < w.heap.size := by
  intro b hb
  rcases h.2 with ⟨e1, _⟩ | ⟨g, cap, cur, e1, e2, e3, _⟩
  · rw [e1] at hb; cases hb
  · rw [e1] at hb
    cases hb
    exact ⟨e2, heap_lt e3⟩
/-- while a float is written: what was there, the bytes so far, the digits -/
structure FE (w0 : World) (B blk nd : Nat) (f : Nat → UInt8) (v : Value) (l : List UInt8) (W : World) : Prop where
  below : Below B w0 W
  hB : B ≤ W.heap.size
  own : OwnB W B v l
  dig : ∀ t, t < nd → W.cell? ⟨blk, t, none⟩ = some (byV (f t))
  lt : blk < W.heap.size
  ne : v.ownBlock ≠ some blk
theorem FE.alloc {w0 : World} {B blk nd : Nat} {f : Nat → UInt8} {v : Value} {l : List UInt8} {W : World} (h : FE w0 B blk nd f v l W) (O : Obj) : FE w0 B blk nd f v l (W.alloc O) := by
  have hA := below1 W O
  refine ⟨h.below.trans (hA.mono h.hB), Nat.le_trans h.hB hA.size, own_kept h.own hA (Nat.le_refl _), fun t ht => cell_kept (h.dig t ht) hA, Nat.lt_of_lt_of_le h.lt hA.size, h.ne⟩
theorem fe_app {w0 : World} {B blk nd : Nat} {f : Nat → UInt8} {v : Value} {l : List UInt8} {w : World} {ops : Array Oper} {rest : List Oper} {o : Oper} {a : Act} {Q : Exit → Act → World → Prop} (hgd : o.guard = none) (s x : Operand) (ho : o.op = .call { callee := .builtin .append, args := #[s, x], argTypes := #[58, 58] })
    (hF : FE w0 B blk nd f v l w) (hs : a.eval s = v) (ad : Addr) (m c : Nat) (l2 : List UInt8) (hm : m = l2.length) (hx : a.eval x = .slice (some ad) m c) (hnews : ∀ (j : Nat) (b : UInt8), l2[j]? = some b → w.cell? (ad.add j) = some (byV b))
    (hl : l.length + l2.length ≤ 100000)
    (h : ∀ v' w', FE w0 B blk nd f v' (l ++ l2) w' → wpList Tryz.prog ops Q rest (a.put o.dst v') w') :
    wpList Tryz.prog ops Q (o :: rest) a w := by
  obtain ⟨i0, hi0, hz0, hz1, hz2⟩ := info_parts infoB
  subst hm
  refine wpList_append_own_at (P := Tryz.prog) w hgd s x 58 ho B 5 i0 (.int .u8 0) 1 1 Tryz.underlying58 hi0 hz0 hz1 hz2 rfl (by omega) v l.length (l.map byV) hs hF.own ad l2.length c (l2.map byV) hx (by rw [List.length_map, Nat.mul_one]) (fun j u hj => ?_) (fun u hu => ?_) (by unfold maxLen; omega) (by omega) hF.hB (fun v' w' h1 h2 _ h4 => h v' w' ?_)
  · rw [List.getElem?_map, Option.map_eq_some_iff] at hj
    obtain ⟨b, hb, rfl⟩ := hj
    exact hnews j b hb
  · obtain ⟨b, _, rfl⟩ := List.mem_map.1 hu
    rfl
  · have hown : OwnB w' B v' (l ++ l2) := by
      unfold OwnB
      rw [List.length_append, List.map_append]
      exact h1
    refine ⟨hF.below.grown h2 hF.hB (fun b hb => (own_base hF.own b hb).1), Nat.le_trans hF.hB h2.size, hown, fun t ht => h2.cell (hF.dig t ht) (fun e => hF.ne e.symm), Nat.lt_of_lt_of_le hF.lt h2.size, fun e => ?_⟩
    rcases h4 with h4 | h4
    · rw [h4] at e; exact hF.ne e
    · rw [h4] at e; have := hF.lt; cases e; omega
theorem byV_ofNat {n : Nat} (h : n < 256) : byV (UInt8.ofNat n) = .int .u8 (n : Int) := by
  unfold byV
  rw [UInt8.toNat_ofNat_of_lt' (by exact h)]
/-- bytes that were just built: their cells -/
theorem news_of (w : World) (l2 : List UInt8) : ∀ (j : Nat) (b : UInt8), l2[j]? = some b → (w.alloc (.cells (l2.map byV).toArray 5)).cell? ((⟨w.heap.size, 0, none⟩ : Addr).add j) = some (byV b) := by
  intro j b hj
  rw [Addr.add_lit, Nat.zero_add, cell_of_row _ _ j _ _ _ (heap_alloc_new w _)]
  simp [hj]
end Go.Proofs.YtoafiombpokpaaaGreatDoor
