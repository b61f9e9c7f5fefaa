/- The walks of the functions over numbers: Index, Contains, Clone, Equal. -/
import Derived.Test.YtcnkghcdjicldaaBase
namespace Go.Proofs.Ytcnkghcdjicldaa
open Go.RowKit

theorem take_snocZ (zs : List Int) (k : Nat) (z : Int) (h : zs[k]? = some z) : zs.take (k + 1) = zs.take k ++ [z] := by
  rw [List.take_add_one, h]; rfl
/-- is a number in a list? -/
def hasZ (l : List Int) (x : Int) : Bool := l.contains x
theorem hasZ_true {l : List Int} {x : Int} : hasZ l x = true ↔ x ∈ l := by unfold hasZ; simp
theorem hasZ_false {l : List Int} {x : Int} : hasZ l x = false ↔ ¬ x ∈ l := by unfold hasZ; simp
def IdxP (b : Bool) (w : World) (e : Ending) (w' : World) : Prop := (∃ r : Int, e = .returned (.int .i64 r) ∧ decide (0 ≤ r) = b) ∧ w = w'
set_option maxHeartbeats 1000000 in
theorem index_any (A : Option Addr) (c : Nat) (zs : List Int) (x : Int) (w : World) (h : Ints w A c zs) : Calls Try.prog 50 #[.slice A zs.length c, .int .i64 x] w (IdxP (hasZ zs x) w) := by
  obtain ⟨n, hn⟩ : ∃ n, n = zs.length := ⟨_, rfl⟩
  rw [← hn]
  have hs := h.small
  unfold maxLen at hs
  rw [← hn] at hs
  have HN := Lib.hid hn
  have H := Lib.hid h.at
  clear h hn
  go_enter Try.func50, Try.ntmps50
  go_wp2
  go_loop [8] (fun i => ∃ k : Nat, k ≤ n ∧ i = .int .i64 k ∧ Hid (hasZ (zs.take k) x = false)) (fun i => n - (intOf i).toNat)
  case atStart => exact ⟨0, Nat.zero_le _, rfl, Lib.hid rfl⟩
  case round =>
    obtain ⟨k, hk, rfl, HC⟩ := hrel
    by_cases hlt : k < n
    · rcases H.out with h0 | ⟨b, off, rfl, hb, hc⟩
      · exfalso; have := HN.out; rw [h0] at this; simp at this; omega
      · obtain ⟨z, hz⟩ : ∃ z, zs[k]? = some z := ⟨_, List.getElem?_eq_getElem (by have := HN.out; omega)⟩
        have hcz := hc k z hz
        have HZ := Lib.hid hz
        clear hz hc
        by_cases hx : x = z
        · subst hx
          have HR := Lib.hid (show hasZ zs x = true from hasZ_true.2 (List.mem_of_getElem? HZ.out))
          go_wp2
          go_ret
          exact ⟨⟨k, rfl, by rw [HR.out]; simp⟩, rfl⟩
        · have hne : (x == z) = false := by simpa using hx
          have HD := Lib.hid (show hasZ (zs.take (k + 1)) x = false by rw [hasZ_false, take_snocZ zs k z HZ.out]; have := hasZ_false.1 HC.out; simp [this, hx])
          clear hx
          go_wp2
          go_round
          case rel => exact ⟨k + 1, by omega, by go_num, HD⟩
          case measure => simp [intOf]; omega
    · have HR := Lib.hid (show hasZ zs x = false by have := HC.out; rwa [List.take_of_length_le (by have := HN.out; omega)] at this)
      go_wp2
      go_ret
      exact ⟨⟨-1, rfl, by rw [HR.out]; rfl⟩, rfl⟩
set_option maxHeartbeats 1000000 in
theorem contains_any (A : Option Addr) (c : Nat) (zs : List Int) (x : Int) (w : World) (h : Ints w A c zs) : Calls Try.prog 36 #[.slice A zs.length c, .int .i64 x] w fun e w' => e = .returned (.bool (hasZ zs x)) ∧ w = w' := by
  have HI := Lib.hid (index_any A c zs x w h)
  clear h
  go_enter Try.func36, Try.ntmps36
  go_wp2_with (first
    | (go_at_call 50; (with_reducible refine HI.out.mono ?_); rintro e w2 ⟨⟨r, rfl, hr⟩, rfl⟩; have HR := Lib.hid hr; clear hr)
    | fail)
  go_ret
  exact ⟨ret_bool (by rw [← HR.out]), rfl⟩
set_option maxHeartbeats 1000000 in
theorem equal_any (A1 A2 : Option Addr) (c1 c2 : Nat) (xs ys : List Int) (w : World) (h1 : Ints w A1 c1 xs) (h2 : Ints w A2 c2 ys) : Calls Try.prog 40 #[.slice A1 xs.length c1, .slice A2 ys.length c2] w (RetV (.bool (xs == ys)) w) := by
  obtain ⟨n, hn⟩ : ∃ n, n = xs.length := ⟨_, rfl⟩
  obtain ⟨m, hm⟩ : ∃ m, m = ys.length := ⟨_, rfl⟩
  rw [← hn, ← hm]
  have hs := h1.small
  have hs2 := h2.small
  unfold maxLen at hs hs2
  rw [← hn] at hs
  rw [← hm] at hs2
  have HN := Lib.hid hn
  have HM := Lib.hid hm
  have H1 := Lib.hid h1.at
  have H2 := Lib.hid h2.at
  clear h1 h2 hn hm
  by_cases hnm : n = m
  · subst hnm
    go_enter Try.func40, Try.ntmps40
    go_wp2
    go_loopw [13] (fun i wr => ∃ k : Nat, k ≤ n ∧ i = .int .i64 k ∧ Hid (xs.take k = ys.take k) ∧ Below w.heap.size w wr) (fun i _ => n - (intOf i).toNat)
    case atStart => exact ⟨0, Nat.zero_le _, rfl, Lib.hid rfl, Below.refl _ _⟩
    case round =>
      obtain ⟨k, hk, rfl, HC, hB⟩ := hrel
      obtain ⟨wo, rfl⟩ : ∃ wo : World, wo = wr := ⟨_, rfl⟩
      have HB := Lib.hid hB
      clear hB
      by_cases hlt : k < n
      · rcases H1.out with h0 | ⟨b, off, rfl, hb, hc⟩
        · exfalso; have := HN.out; rw [h0] at this; simp at this; omega
        · rcases H2.out with h0 | ⟨b', off', rfl, hb', hc'⟩
          · exfalso; have := HM.out; rw [h0] at this; simp at this; omega
          · obtain ⟨x, hx⟩ : ∃ z, xs[k]? = some z := ⟨_, List.getElem?_eq_getElem (by have := HN.out; omega)⟩
            obtain ⟨y, hy⟩ : ∃ z, ys[k]? = some z := ⟨_, List.getElem?_eq_getElem (by have := HM.out; omega)⟩
            have hcx := (HB.out.cell (p := ⟨b, off + k, none⟩) hb).trans (hc k x hx)
            have hcy := (HB.out.cell (p := ⟨b', off' + k, none⟩) hb').trans (hc' k y hy)
            have HX := Lib.hid hx
            have HY := Lib.hid hy
            clear hx hy hc hc'
            by_cases hxy : x = y
            · subst hxy
              have HD := Lib.hid (show xs.take (k + 1) = ys.take (k + 1) by rw [take_snocZ xs k x HX.out, take_snocZ ys k x HY.out, HC.out])
              go_wp2_with fail
              go_quiet (fail)
              go_wp2_with fail
              go_roundw
              case rel => exact ⟨k + 1, by omega, by go_num, HD, by exact below_drewN HB.out ⟨_, rfl⟩⟩
              case measure => simp [intOf]; omega
            · have hne : (x == y) = false := by simpa using hxy
              have hne' : (x != y) = true := by simpa using hxy
              have HR := Lib.hid (show (xs == ys) = false by rw [beq_eq_false_iff_ne]; intro e; apply hxy; have := HX.out; rw [e, HY.out] at this; exact (Option.some.inj this).symm)
              clear hxy
              go_wp2_with fail
              go_quiet (fail)
              go_wp2_with fail
              go_ret
              exact ⟨ret_bool HR.out.symm, below_drewN HB.out ⟨_, rfl⟩⟩
      · have HR := Lib.hid (show (xs == ys) = true by have := HC.out; rw [List.take_of_length_le (by have := HN.out; omega), List.take_of_length_le (by have := HM.out; omega)] at this; rw [this]; simp)
        go_wp2_with fail
        go_ret
        exact ⟨ret_bool HR.out.symm, HB.out⟩
  · have HR := Lib.hid (show (xs == ys) = false by rw [beq_eq_false_iff_ne]; intro e; apply hnm; rw [HN.out, HM.out, e])
    have hne : ((n : Int) != (m : Int)) = true := by simpa using (by omega : ¬ (n : Int) = m)
    clear hnm
    go_enter Try.func40, Try.ntmps40
    go_wp2
    go_ret
    exact ⟨ret_bool HR.out.symm, Below.refl _ _⟩
end Go.Proofs.Ytcnkghcdjicldaa
