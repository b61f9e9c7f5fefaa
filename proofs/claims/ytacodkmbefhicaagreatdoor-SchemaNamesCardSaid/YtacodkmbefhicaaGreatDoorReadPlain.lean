/- What readFloat reads of a short number with a fraction: plain. -/
import Derived.Test.YtacodkmbefhicaaGreatDoorSpecial
namespace Go.Proofs.YtacodkmbefhicaaGreatDoor
open Go.RowKit

/-- digits, a point, digits -/
structure DecT (s : ByteArray) (p : Nat) : Prop where
  short : s.size ≤ 12
  pos : 1 ≤ p
  more : p + 1 < s.size
  dot : s.data.toList[p]? = some 46
  digs : ∀ j c, j ≠ p → s.data.toList[j]? = some c → digP (c.toNat : Int) = true
/-- the mantissa, its digits, where the point is -/
structure RF where
  M : Nat
  nd : Nat
  dp : Int
def rfStep (st : RF) (c : UInt8) : RF :=
  if c = 46 then ⟨st.M, st.nd, st.nd⟩ else if c = 48 ∧ st.nd = 0 then ⟨st.M, st.nd, st.dp - 1⟩ else ⟨st.M * 10 + (c.toNat - 48), st.nd + 1, st.dp⟩
def rfAt (l : List UInt8) (k : Nat) : RF := (l.take k).foldl rfStep ⟨0, 0, 0⟩
theorem rfAt_succ {l : List UInt8} {k : Nat} {c : UInt8} (h : l[k]? = some c) : rfAt l (k + 1) = rfStep (rfAt l k) c := by
  unfold rfAt
  rw [List.take_add_one, h, List.foldl_append]
  rfl
structure RFok (p k : Nat) (st : RF) : Prop where
  m : st.M < 10 ^ k
  n : st.nd ≤ k
  d : (st.nd : Int) - st.dp ≤ k
  d0 : -(k : Int) ≤ st.dp
  d1 : st.dp ≤ st.nd
theorem rf_ok {s : ByteArray} {p : Nat} (h : DecT s p) : ∀ k, k ≤ s.size → RFok p k (rfAt s.data.toList k) := by
  have hsl : s.data.toList.length = s.size := by show _ = s.data.size; simp
  intro k
  induction k with
  | zero => intro _; exact ⟨by simp [rfAt], by simp [rfAt], by simp [rfAt], by simp [rfAt], by simp [rfAt]⟩
  | succ k ih =>
    intro hk
    obtain ⟨i1, i2, i3, i4, i5⟩ := ih (by omega)
    obtain ⟨c, hc⟩ : ∃ c, s.data.toList[k]? = some c := ⟨_, List.getElem?_eq_getElem (by omega)⟩
    rw [rfAt_succ hc]
    have hp : 10 ^ (k + 1) = 10 ^ k * 10 := Nat.pow_succ ..
    unfold rfStep
    split
    · refine ⟨?_, ?_, ?_, ?_, ?_⟩ <;> dsimp only <;> omega
    · split
      · refine ⟨?_, ?_, ?_, ?_, ?_⟩ <;> dsimp only <;> omega
      · rename_i h46 _
        have hd : digP (c.toNat : Int) = true := by
          by_cases e : k = p
          · subst e; rw [h.dot] at hc; cases hc; exact absurd rfl h46
          · exact h.digs k c e hc
        have hd2 := digP_iff.1 hd
        refine ⟨?_, ?_, ?_, ?_, ?_⟩ <;> dsimp only <;> omega
theorem low_ne : ∀ n : Fin 58, (bits .or .u8 ((n.val : Nat) : Int) 32 == 120) = false := by decide +kernel
end Go.Proofs.YtacodkmbefhicaaGreatDoor
