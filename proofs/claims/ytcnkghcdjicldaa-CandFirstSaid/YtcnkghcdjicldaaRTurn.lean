/- The walk of the document's Turn. -/
import Derived.Test.YtcnkghcdjicldaaSmall
namespace Go.Proofs.Ytcnkghcdjicldaa
open Go.RowKit

theorem rturn_at (W : World) (b : Nat) (s0 s1 s2 s3 : ByteArray) (h : W.heap[b]? = some (.cells #[.string s0, .string s1, .string s2, .string s3] 9 (0, 0))) (j : Nat) (hj : j < 4) : W.cell? ⟨b, j, none⟩ = some (.string ([s0, s1, s2, s3].getD j ⟨#[]⟩)) := by
  match j, hj with
  | 0, _ => exact cell_of_row W b 0 _ _ _ h
  | 1, _ => exact cell_of_row W b 1 _ _ _ h
  | 2, _ => exact cell_of_row W b 2 _ _ _ h
  | 3, _ => exact cell_of_row W b 3 _ _ _ h
def fromS (j : Nat) : ByteArray := ([⟨#[60]⟩, ⟨#[60, 61]⟩, ⟨#[62]⟩, ⟨#[62, 61]⟩] : List ByteArray).getD j ⟨#[]⟩
def toS (j : Nat) : ByteArray := ([⟨#[62]⟩, ⟨#[62, 61]⟩, ⟨#[60]⟩, ⟨#[60, 61]⟩] : List ByteArray).getD j ⟨#[]⟩
theorem turn_hit (s : ByteArray) (j : Nat) (hj : j < 4) (h : (fromS j).toList = s.toList) : turnR s = toS j := by
  obtain rfl := toList_inj h
  match j, hj with
  | 0, _ => unfold turnR fromS toS; simp [ByteArray.toList_eq]
  | 1, _ => unfold turnR fromS toS; simp [ByteArray.toList_eq]
  | 2, _ => unfold turnR fromS toS; simp [ByteArray.toList_eq]
  | 3, _ => unfold turnR fromS toS; simp [ByteArray.toList_eq]
theorem turn_miss (s : ByteArray) (h : ∀ j, j < 4 → ¬ (fromS j).toList = s.toList) : turnR s = s := by
  have h0 := h 0 (by omega)
  have h1 := h 1 (by omega)
  have h2 := h 2 (by omega)
  have h3 := h 3 (by omega)
  unfold fromS at h0 h1 h2 h3
  simp only [List.getD_cons_zero, List.getD_cons_succ, ByteArray.toList_eq] at h0 h1 h2 h3
  unfold turnR
  rw [ByteArray.toList_eq]
  rw [if_neg (fun e => h0 e.symm), if_neg (fun e => h1 e.symm), if_neg (fun e => h2 e.symm), if_neg (fun e => h3 e.symm)]
set_option maxHeartbeats 1000000 in
theorem rturn_any (s : ByteArray) (w : World) : Calls Try.prog 45 #[.string s] w (RetV (.string (turnR s)) w) := by
  obtain ⟨R, hR⟩ : ∃ R, R = turnR s := ⟨_, rfl⟩
  rw [← hR]
  have HR := Lib.hid hR
  clear hR
  have HB := Lib.hid (below2 w (.cells #[.string ⟨#[60]⟩, .string ⟨#[60, 61]⟩, .string ⟨#[62]⟩, .string ⟨#[62, 61]⟩] 9) (.cells #[.string ⟨#[62]⟩, .string ⟨#[62, 61]⟩, .string ⟨#[60]⟩, .string ⟨#[60, 61]⟩] 9))
  have H1 := Lib.hid (fun j hj => rturn_at ((w.alloc (.cells #[.string ⟨#[60]⟩, .string ⟨#[60, 61]⟩, .string ⟨#[62]⟩, .string ⟨#[62, 61]⟩] 9)).alloc (.cells #[.string ⟨#[62]⟩, .string ⟨#[62, 61]⟩, .string ⟨#[60]⟩, .string ⟨#[60, 61]⟩] 9)) w.heap.size _ _ _ _ ((Below.heap_alloc _ _ _ (by simp)).trans (heap_alloc_new w _)) j hj)
  have H2 := Lib.hid (fun j hj => rturn_at ((w.alloc (.cells #[.string ⟨#[60]⟩, .string ⟨#[60, 61]⟩, .string ⟨#[62]⟩, .string ⟨#[62, 61]⟩] 9)).alloc (.cells #[.string ⟨#[62]⟩, .string ⟨#[62, 61]⟩, .string ⟨#[60]⟩, .string ⟨#[60, 61]⟩] 9)) (w.heap.size + 1) _ _ _ _ (by have := heap_alloc_new (w.alloc (.cells #[.string ⟨#[60]⟩, .string ⟨#[60, 61]⟩, .string ⟨#[62]⟩, .string ⟨#[62, 61]⟩] 9)) (.cells #[.string ⟨#[62]⟩, .string ⟨#[62, 61]⟩, .string ⟨#[60]⟩, .string ⟨#[60, 61]⟩] 9); rwa [World.size_alloc] at this) j hj)
  go_enter Try.func45, Try.ntmps45
  go_wp2_with fail
  go_loop [5] (fun i => ∃ k : Nat, k ≤ 4 ∧ i = .int .i64 k ∧ Hid (∀ j, j < k → ¬ (fromS j).toList = s.toList)) (fun i => 4 - (intOf i).toNat)
  case atStart => exact ⟨0, Nat.zero_le _, rfl, Lib.hid (fun j hj => absurd hj (Nat.not_lt_zero _))⟩
  case round =>
    obtain ⟨k, hk, rfl, HC⟩ := hrel
    by_cases hlt : k < 4
    · have c1 := H1.out k hlt
      have c2 := H2.out k hlt
      change _ = some (Value.string (fromS k)) at c1
      change _ = some (Value.string (toS k)) at c2
      have hk4 : (k : Int) < 4 := by omega
      obtain ⟨F, hF⟩ : ∃ F, F = fromS k := ⟨_, rfl⟩
      obtain ⟨T, hT⟩ : ∃ T, T = toS k := ⟨_, rfl⟩
      rw [← hF] at c1
      rw [← hT] at c2
      have HF := Lib.hid hF
      have HT := Lib.hid hT
      clear hF hT
      cases hx : (F.toList == s.toList) with
      | true =>
        have HE := Lib.hid (show R = T by rw [HR.out, HT.out]; exact turn_hit s k hlt (by rw [← HF.out]; simpa using hx))
        go_wp2_with fail
        go_ret
        exact ⟨ret_str HE.out.symm, HB.out⟩
      | false =>
        have HD := Lib.hid (show ∀ j, j < k + 1 → ¬ (fromS j).toList = s.toList from fun j hj => by
          by_cases e : j = k
          · rw [e, ← HF.out]; simpa using hx
          · exact HC.out j (by omega))
        go_wp2_with fail
        go_round
        case rel => exact ⟨k + 1, by omega, by go_num, HD⟩
        case measure => simp [intOf] <;> omega
    · have HE := Lib.hid (show R = s by rw [HR.out]; exact turn_miss s (fun j hj => HC.out j (by omega)))
      go_wp2_with fail
      go_ret
      exact ⟨ret_str HE.out.symm, HB.out⟩
end Go.Proofs.Ytcnkghcdjicldaa
