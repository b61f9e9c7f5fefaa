/- The walks of the document's small functions: a list's number, is a thing in it, does it fit. -/
import Derived.Test.YteckfakabaiipaaDoorLaw3
import Derived.Test.YteckfakabaiipaaDoorFitsAny
import Derived.Test.YteckfakabaiipaaDoorOwn
namespace Go.Proofs.YteckfakabaiipaaDoor
open Go.RowKit

/-- a list of things, as cells -/
def thingsV (l : List Nat) : List Value := l.map fun (i : Nat) => .int .i64 (i : Int)
theorem thingsV_get (l : List Nat) (i : Nat) (h : i < l.length) : (thingsV l)[i]? = some (.int .i64 (l[i] : Int)) := by
  unfold thingsV
  rw [List.getElem?_map, List.getElem?_eq_getElem h]; rfl
theorem thingsV_length (l : List Nat) : (thingsV l).length = l.length := by unfold thingsV; simp
theorem or_add : ∀ (i s : Nat), s.testBit i = false → s ||| 2 ^ i = s + 2 ^ i := by
  intro i
  induction i with
  | zero =>
    intro s h
    have h0 : s % 2 = 0 := by rw [Nat.mod_two_eq_zero_iff_testBit_zero]; exact h
    have h1 := Nat.or_div_two (a := s) (b := 2 ^ 0)
    have h2 : (s ||| 2 ^ 0) % 2 = 1 := by rw [Nat.or_mod_two_eq_one]; exact .inr rfl
    have h3 : s / 2 ||| 2 ^ 0 / 2 = s / 2 := by simp
    rw [h3] at h1
    omega
  | succ i ih =>
    intro s h
    rw [Nat.testBit_succ] at h
    have h1 := Nat.or_div_two (a := s) (b := 2 ^ (i + 1))
    have hp : 2 ^ (i + 1) = 2 * 2 ^ i := by rw [Nat.pow_succ]; omega
    rw [hp] at h1 ⊢
    rw [show 2 * 2 ^ i / 2 = 2 ^ i by omega, ih _ h] at h1
    have h2 : (s ||| 2 * 2 ^ i) % 2 = 1 ↔ s % 2 = 1 ∨ (2 * 2 ^ i) % 2 = 1 := Nat.or_mod_two_eq_one
    omega
theorem setL_take (l : List Nat) (i : Nat) (h : i < l.length) (hn : l.Nodup) : setL (l.take (i + 1)) = setL (l.take i) + 2 ^ l[i] := by
  rw [List.take_succ_eq_append_getElem h, setL_snoc, or_add]
  rw [bit_setL]
  have : l[i] ∉ l.take i := by
    intro hm
    obtain ⟨j, hj, e⟩ := List.mem_iff_getElem.1 hm
    rw [List.length_take] at hj
    rw [List.getElem_take] at e
    have := (List.getElem_inj hn).1 e
    omega
  simp [this]

set_option maxHeartbeats 2000000 in
theorem set_any (A : Option Addr) (m c B : Nat) (l : List Nat) (w : World) (hs : Src w B A m c (thingsV l)) (hl : Things 16 l) :
    Calls Tryd.prog 12 #[.slice A m c] w fun e w' => e = .returned (.int .i64 (setL l)) ∧ w = w' := by
  have hm : l.length = m := by rw [← thingsV_length]; exact hs.length
  have HM := Lib.hid hm
  have hm16 : m ≤ 16 := by rw [← hm]; exact things_le 16 l hl
  clear hm
  have HS := Lib.hid hs
  clear hs
  go_enter Tryd.func12, Tryd.ntmps12
  go_wp2
  go_loop [3, 4] (fun t i => ∃ j : Nat, j ≤ m ∧ i = .int .i64 j ∧ t = .int .i64 (setL (l.take j))) (fun _ i => m - (intOf i).toNat)
  case atStart => exact ⟨0, Nat.zero_le _, rfl, rfl⟩
  case round =>
    obtain ⟨j, hj, rfl, rfl⟩ := hrel
    by_cases hlt : j < m
    · have hjl : j < l.length := by rw [HM.out]; exact hlt
      rcases HS.out with ⟨_, h0, _⟩ | ⟨ad, rfl, _, _, _, hcs⟩
      · omega
      · have hcell := hcs j _ (thingsV_get l j hjl)
        have hx : l[j] < 16 := hl.2 _ (List.getElem_mem _)
        have HT0 := setL_take l j hjl hl.1
        have hb : setL (l.take j) < 2 ^ 16 := setL_lt _ 16 fun y hy => hl.2 y (List.mem_of_mem_take hy)
        obtain ⟨x, hxd⟩ : ∃ x, x = l[j] := ⟨_, rfl⟩
        rw [← hxd] at hcell hx
        obtain ⟨t, ht⟩ : ∃ t, t = setL (l.take j) := ⟨_, rfl⟩
        rw [← ht] at hb ⊢
        rw [← hxd, ← ht] at HT0
        have HT := Lib.hid HT0
        clear HT0 hcs hxd ht hjl
        go_wp2_with fail
        go_loop [5, 6] (fun b k => ∃ q p : Nat, q ≤ x ∧ k = .int .i64 q ∧ b = .int .i64 p ∧ Hid (p = 2 ^ q) ∧ p ≤ 65536) (fun _ k => x - (intOf k).toNat)
        case atStart => exact ⟨0, 1, Nat.zero_le _, rfl, rfl, Lib.hid rfl, by omega⟩
        case round =>
          obtain ⟨q, p, hq, rfl, rfl, HP, hp⟩ := hrel
          by_cases hqx : q < x
          · have hp2 : 2 * p ≤ 65536 := by
              have h1 := HP.out
              have h2 : 2 ^ (q + 1) ≤ 2 ^ 16 := Nat.pow_le_pow_right (by omega) (by omega)
              rw [Nat.pow_succ] at h2
              omega
            go_wp2_with fail
            go_round
            case rel => exact ⟨q + 1, 2 * p, by omega, by go_num, by go_num, Lib.hid (by rw [HP.out, Nat.pow_succ]; omega), hp2⟩
            case measure => simp [intOf]; omega
          · have HE := Lib.hid (show setL (l.take (j + 1)) = t + p by
              have hqe : q = x := by omega
              rw [HT.out, HP.out, hqe])
            go_wp2_with fail
            go_round
            case rel => exact ⟨j + 1, by omega, by go_num, by rw [HE.out]; go_num⟩
            case measure => simp [intOf]; omega
    · have HE := Lib.hid (show setL (l.take j) = setL l by rw [List.take_of_length_le (by rw [HM.out]; omega)])
      go_wp2
      go_ret
      exact ⟨ret_i64 (by rw [HE.out]), rfl⟩

set_option maxHeartbeats 2000000 in
theorem has_any (A : Option Addr) (m c B x : Nat) (l : List Nat) (w : World) (hs : Src w B A m c (thingsV l)) (hm9 : m ≤ 65536) :
    Calls Tryd.prog 22 #[.slice A m c, .int .i64 x] w fun e w' => e = .returned (.bool (decide (x ∈ l))) ∧ w = w' := by
  have HM := Lib.hid (show l.length = m by rw [← thingsV_length]; exact hs.length)
  have HS := Lib.hid hs
  clear hs
  go_enter Tryd.func22, Tryd.ntmps22
  go_wp2
  go_loop [5] (fun i => ∃ j : Nat, j ≤ m ∧ i = .int .i64 j ∧ Hid (x ∉ l.take j)) (fun i => m - (intOf i).toNat)
  case atStart => exact ⟨0, Nat.zero_le _, rfl, Lib.hid (by simp)⟩
  case round =>
    obtain ⟨j, hj, rfl, HN⟩ := hrel
    by_cases hlt : j < m
    · have hjl : j < l.length := by rw [HM.out]; exact hlt
      rcases HS.out with ⟨_, h0, _⟩ | ⟨ad, rfl, _, _, _, hcs⟩
      · omega
      · have hcell := hcs j _ (thingsV_get l j hjl)
        by_cases he : l[j] = x
        · have HE := Lib.hid (show decide (x ∈ l) = true by rw [decide_eq_true_eq, ← he]; exact List.getElem_mem _)
          have hb : (((l[j] : Nat) : Int) == (x : Int)) = true := by rw [he]; exact beq_self_eq_true _
          obtain ⟨y, hy⟩ : ∃ y, y = l[j] := ⟨_, rfl⟩
          rw [← hy] at hcell hb
          clear hcs he hy hjl
          go_wp2_with fail
          go_ret
          exact ⟨ret_bool HE.out.symm, rfl⟩
        · have HE := Lib.hid (show x ∉ l.take (j + 1) by
            rw [List.take_succ_eq_append_getElem hjl]
            intro hm
            rcases List.mem_append.1 hm with hm | hm
            · exact HN.out hm
            · have hm2 : x = l[j] := by simpa using hm
              exact he hm2.symm)
          have hb : (((l[j] : Nat) : Int) == (x : Int)) = false := by rw [beq_eq_false_iff_ne]; omega
          obtain ⟨y, hy⟩ : ∃ y, y = l[j] := ⟨_, rfl⟩
          rw [← hy] at hcell hb
          clear hcs he hy hjl
          go_wp2_with fail
          go_round
          case rel => exact ⟨j + 1, by omega, by go_num, HE⟩
          case measure => simp [intOf]; omega
    · have HE0 : decide (x ∈ l) = false := by
        have hn := HN.out
        rw [List.take_of_length_le (by rw [HM.out]; omega)] at hn
        simpa using hn
      have HE := Lib.hid HE0
      clear HE0
      go_wp2
      go_ret
      exact ⟨ret_bool HE.out.symm, rfl⟩
end Go.Proofs.YteckfakabaiipaaDoor
