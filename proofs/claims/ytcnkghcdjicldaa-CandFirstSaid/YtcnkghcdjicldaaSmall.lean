/- The walks of Turn, of slices.Contains over texts, of Orders, and of the order's test. -/
import Derived.Test.YtcnkghcdjicldaaRReads
namespace Go.Proofs.Ytcnkghcdjicldaa
open Go.RowKit

theorem op_ne {l m : List UInt8} (h : l ≠ m) : (l == m) = false := by rw [beq_eq_false_iff_ne]; exact h
theorem toList_inj {s t : ByteArray} (h : s.toList = t.toList) : s = t := by
  apply ByteArray.ext; apply Array.toList_inj.1; rw [← ByteArray.toList_eq, ← ByteArray.toList_eq, h]
/-- a sign turned round -/
def turnR (s : ByteArray) : ByteArray := if s.toList = [60] then ⟨#[62]⟩ else if s.toList = [60, 61] then ⟨#[62, 61]⟩ else if s.toList = [62] then ⟨#[60]⟩ else if s.toList = [62, 61] then ⟨#[60, 61]⟩ else s
theorem ret_str {a b : ByteArray} (h : a = b) : Ending.returned (.string a) = .returned (.string b) := by rw [h]
set_option maxHeartbeats 1000000 in
theorem turn_any (s : ByteArray) (w : World) : Calls Try.prog 32 #[.string s] w fun e w' => e = .returned (.string (turnR s)) ∧ w = w' := by
  obtain ⟨R, hR⟩ : ∃ R, R = turnR s := ⟨_, rfl⟩
  rw [← hR]
  have HR := Lib.hid hR
  clear hR
  by_cases h0 : s.toList = [60]
  · have HE := Lib.hid (show R = ⟨#[62]⟩ by rw [HR.out]; unfold turnR; rw [if_pos h0])
    have e0 : (s.toList == [60]) = true := by rw [h0]; decide
    clear h0
    go_enter Try.func32, Try.ntmps32
    go_wp2
    go_ret
    exact ⟨ret_str HE.out.symm, rfl⟩
  · have n0 := op_ne h0
    by_cases h1 : s.toList = [60, 61]
    · have HE := Lib.hid (show R = ⟨#[62, 61]⟩ by rw [HR.out]; unfold turnR; rw [if_neg h0, if_pos h1])
      have e1 : (s.toList == [60, 61]) = true := by rw [h1]; decide
      clear h0 h1
      go_enter Try.func32, Try.ntmps32
      go_wp2
      go_ret
      exact ⟨ret_str HE.out.symm, rfl⟩
    · have n1 := op_ne h1
      by_cases h2 : s.toList = [62]
      · have HE := Lib.hid (show R = ⟨#[60]⟩ by rw [HR.out]; unfold turnR; rw [if_neg h0, if_neg h1, if_pos h2])
        have e2 : (s.toList == [62]) = true := by rw [h2]; decide
        clear h0 h1 h2
        go_enter Try.func32, Try.ntmps32
        go_wp2
        go_ret
        exact ⟨ret_str HE.out.symm, rfl⟩
      · have n2 := op_ne h2
        by_cases h3 : s.toList = [62, 61]
        · have HE := Lib.hid (show R = ⟨#[60, 61]⟩ by rw [HR.out]; unfold turnR; rw [if_neg h0, if_neg h1, if_neg h2, if_pos h3])
          have e3 : (s.toList == [62, 61]) = true := by rw [h3]; decide
          clear h0 h1 h2 h3
          go_enter Try.func32, Try.ntmps32
          go_wp2
          go_ret
          exact ⟨ret_str HE.out.symm, rfl⟩
        · have HE := Lib.hid (show R = s by rw [HR.out]; unfold turnR; rw [if_neg h0, if_neg h1, if_neg h2, if_neg h3])
          have n3 := op_ne h3
          clear h0 h1 h2 h3
          go_enter Try.func32, Try.ntmps32
          go_wp2
          go_ret
          exact ⟨ret_str HE.out.symm, rfl⟩
/-- texts of a slice -/
def Strs (w : World) (A : Option Addr) (ss : List ByteArray) : Prop := ss.length ≤ maxLen ∧ (ss = [] ∨ ∃ b off, A = some ⟨b, off, none⟩ ∧ b < w.heap.size ∧ ∀ (j : Nat) (s : ByteArray), ss[j]? = some s → w.cell? ⟨b, off + j, none⟩ = some (.string s))
theorem Strs.keep {w w' : World} (hB : Below w.heap.size w w') {A : Option Addr} {ss : List ByteArray} (h : Strs w A ss) : Strs w' A ss :=
  ⟨h.1, h.2.imp id fun ⟨b, off, h1, h2, h3⟩ => ⟨b, off, h1, Nat.lt_of_lt_of_le h2 hB.size, fun j s hs => (hB.cell (p := ⟨b, off + j, none⟩) h2).trans (h3 j s hs)⟩⟩
/-- is a text among some? -/
def hasS (ss : List ByteArray) (x : ByteArray) : Bool := ss.any (fun s => x.toList == s.toList)
set_option maxHeartbeats 1000000 in
theorem indexS_any (A : Option Addr) (c : Nat) (ss : List ByteArray) (x : ByteArray) (w : World) (h : Strs w A ss) : Calls Try.prog 47 #[.slice A ss.length c, .string x] w (IdxP (hasS ss x) w) := by
  obtain ⟨n, hn⟩ : ∃ n, n = ss.length := ⟨_, rfl⟩
  rw [← hn]
  have hs := h.1
  unfold maxLen at hs
  rw [← hn] at hs
  have HN := Lib.hid hn
  have H := Lib.hid h.2
  clear h hn
  go_enter Try.func47, Try.ntmps47
  go_wp2
  go_loop [8] (fun i => ∃ k : Nat, k ≤ n ∧ i = .int .i64 k ∧ Hid (hasS (ss.take k) x = false)) (fun i => n - (intOf i).toNat)
  case atStart => exact ⟨0, Nat.zero_le _, rfl, Lib.hid rfl⟩
  case round =>
    obtain ⟨k, hk, rfl, HC⟩ := hrel
    by_cases hlt : k < n
    · rcases H.out with h0 | ⟨b, off, rfl, hb, hc⟩
      · exfalso; have := HN.out; rw [h0] at this; simp at this; omega
      · obtain ⟨z, hz⟩ : ∃ z, ss[k]? = some z := ⟨_, List.getElem?_eq_getElem (by have := HN.out; omega)⟩
        have hcz := hc k z hz
        have HZ := Lib.hid hz
        clear hz hc
        cases hx : (x.toList == z.toList) with
        | true =>
          have HR := Lib.hid (show hasS ss x = true from any_hit ss _ k z HZ.out hx)
          go_wp2
          go_ret
          exact ⟨⟨k, rfl, by rw [HR.out]; simp⟩, rfl⟩
        | false =>
          have HD := Lib.hid (show hasS (ss.take (k + 1)) x = false by unfold hasS; rw [any_take_snoc ss _ k z HZ.out, hx]; have := HC.out; unfold hasS at this; rw [this]; rfl)
          go_wp2
          go_round
          case rel => exact ⟨k + 1, by omega, by go_num, HD⟩
          case measure => simp [intOf]; omega
    · have HR := Lib.hid (show hasS ss x = false by have := HC.out; rwa [List.take_of_length_le (by have := HN.out; omega)] at this)
      go_wp2
      go_ret
      exact ⟨⟨-1, rfl, by rw [HR.out]; rfl⟩, rfl⟩
set_option maxHeartbeats 1000000 in
theorem containsS_any (A : Option Addr) (c : Nat) (ss : List ByteArray) (x : ByteArray) (w : World) (h : Strs w A ss) : Calls Try.prog 34 #[.slice A ss.length c, .string x] w fun e w' => e = .returned (.bool (hasS ss x)) ∧ w = w' := by
  have HI := Lib.hid (indexS_any A c ss x w h)
  clear h
  go_enter Try.func34, Try.ntmps34
  go_wp2_with (first
    | (go_at_call 47; (with_reducible refine HI.out.mono ?_); rintro e w2 ⟨⟨r, rfl, hr⟩, rfl⟩; have HR := Lib.hid hr; clear hr)
    | fail)
  go_ret
  exact ⟨ret_bool (by rw [← HR.out]), rfl⟩
/-- does a query's answer come in an order? -/
def ordersR (q : Qd) : Bool := !q.grouped && decide (0 < q.ord.length)
set_option maxHeartbeats 1000000 in
theorem orders_any (q : Qd) (w : World) : Calls Try.prog 20 #[qV q] w (RetV (.bool (ordersR q)) w) := by
  obtain ⟨R, hR⟩ : ∃ R, R = ordersR q := ⟨_, rfl⟩
  have HR := Lib.hid hR
  obtain ⟨g, hg⟩ : ∃ g, g = q.grouped := ⟨_, rfl⟩
  obtain ⟨n, hn⟩ : ∃ n, n = q.ord.length := ⟨_, rfl⟩
  have HE := Lib.hid (show R = (!g && decide (0 < n)) by rw [hR, hg, hn]; rfl)
  have HB := Lib.hid (below1 w (.cells #[.slice q.tA q.tabs.length q.tc, .slice q.bA q.beg.length q.bc, .int .i64 q.width, .slice q.wA q.wh.length q.wc, .slice q.gA q.gn q.gc, .bool g, .slice q.iA q.i_n q.ic, .slice q.oA n q.oc, .int .i64 q.limit] 26))
  rw [← hR]
  unfold qV Qd.cells
  rw [← hg, ← hn]
  clear hR hg hn
  cases g
  all_goals
    go_enter Try.func20, Try.ntmps20
    go_wp2
    go_ret
    exact ⟨ret_bool (by rw [HE.out]; simp), HB.out⟩
set_option maxHeartbeats 1000000 in
theorem rorders_any (q : Qd) (w : World) : Calls Try.prog 46 #[qV q] w (RetV (.bool (ordersR q)) w) := by
  obtain ⟨R, hR⟩ : ∃ R, R = ordersR q := ⟨_, rfl⟩
  have HR := Lib.hid hR
  obtain ⟨g, hg⟩ : ∃ g, g = q.grouped := ⟨_, rfl⟩
  obtain ⟨n, hn⟩ : ∃ n, n = q.ord.length := ⟨_, rfl⟩
  have HE := Lib.hid (show R = (!g && decide (0 < n)) by rw [hR, hg, hn]; rfl)
  have HB := Lib.hid (below1 w (.cells #[.slice q.tA q.tabs.length q.tc, .slice q.bA q.beg.length q.bc, .int .i64 q.width, .slice q.wA q.wh.length q.wc, .slice q.gA q.gn q.gc, .bool g, .slice q.iA q.i_n q.ic, .slice q.oA n q.oc, .int .i64 q.limit] 26))
  rw [← hR]
  unfold qV Qd.cells
  rw [← hg, ← hn]
  clear hR hg hn
  cases g
  all_goals
    go_enter Try.func46, Try.ntmps46
    go_wp2
    go_ret
    exact ⟨ret_bool (by rw [HE.out]; simp <;> omega), HB.out⟩
end Go.Proofs.Ytcnkghcdjicldaa
