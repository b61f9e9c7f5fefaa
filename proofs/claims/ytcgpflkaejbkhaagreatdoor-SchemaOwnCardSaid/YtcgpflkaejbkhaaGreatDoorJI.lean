/- The walks of the document's kind, digits. The walk of the document's text. The walk of the document's number. -/
import Derived.Test.YtcgpflkaejbkhaaGreatDoorJC
import Derived.Test.YtcgpflkaejbkhaaGreatDoorJD
import Derived.Test.YtcgpflkaejbkhaaGreatDoorJF
namespace Go.Proofs.YtcgpflkaejbkhaaGreatDoor
open Go.RowKit

def kindZ (r : Int) : Int := if letP r then 1 else if digP r then 2 else if blaP r then 3 else 0
theorem ret_i {a b : Int} (h : a = b) : Ending.returned (.int .i64 a) = .returned (.int .i64 b) := by rw [h]
set_option maxHeartbeats 4000000 in
theorem kind_any (r : Int) (w : World) : Calls Tryz.prog 98 #[.int .u8 r] w (SameV (.int .i64 (kindZ r)) w) := by
  obtain ⟨b, hb⟩ : ∃ b, b = kindZ r := ⟨_, rfl⟩
  have HB := Lib.hid hb
  rw [← hb]
  clear hb
  go_enter Tryz.func98, Tryz.ntmps98
  go_wp2
  all_goals
    go_ret
    refine ⟨ret_i ?_, rfl⟩
    have hz := HB.out
    clear HB
    subst hz
    try simp only [beq_iff_eq, beq_eq_false_iff_ne, ne_eq] at *
    simp only [kindZ, letP, digP, blaP, Bool.or_eq_true, Bool.and_eq_true, decide_eq_true_iff]
    (repeat' split) <;> omega
theorem kindZ_let {r : Int} (h : letP r = true) : kindZ r = 1 := by simp [kindZ, h]
theorem kindZ_dig {r : Int} (h : letP r = false) (h2 : digP r = true) : kindZ r = 2 := by simp [kindZ, h, h2]
theorem kindZ_is1 (r : Int) : (kindZ r == 1) = letP r := by
  unfold kindZ
  cases letP r <;> cases digP r <;> cases blaP r <;> rfl
theorem dig_not_let {r : Int} (h : digP r = true) : letP r = false := by
  simp only [digP, Bool.and_eq_true, decide_eq_true_iff] at h
  simp only [letP, Bool.or_eq_false_iff, Bool.and_eq_false_iff, decide_eq_false_iff_not]
  omega
theorem bla_not_dig {r : Int} (h : blaP r = true) : letP r = false ∧ digP r = false := by
  simp only [blaP, Bool.or_eq_true, decide_eq_true_iff] at h
  rcases h with ((h | h) | h) | h <;> subst h <;> decide
theorem kindZ_is2 (r : Int) : (kindZ r == 2) = digP r := by
  cases h : digP r with
  | true => simp [kindZ, h, dig_not_let h]
  | false =>
    unfold kindZ
    rw [h]
    cases letP r <;> cases blaP r <;> rfl
theorem kindZ_is3 (r : Int) : (kindZ r == 3) = blaP r := by
  cases h : blaP r with
  | true => simp [kindZ, h, bla_not_dig h]
  | false =>
    unfold kindZ
    rw [h]
    cases letP r <;> cases digP r <;> rfl
set_option maxHeartbeats 4000000 in
theorem digits_any (s : ByteArray) (p : Nat) (w : World) (hp : p ≤ s.size) (hs : s.size ≤ 200) : Calls Tryz.prog 131 #[.string s, .int .i64 (p : Int)] w (SameV (.int .i64 ((p + spanR digP (s.data.toList.drop p) : Nat) : Int)) w) := by
  have hsl : s.data.toList.length = s.size := by show _ = s.data.size; simp
  obtain ⟨R, hR⟩ : ∃ R : Nat, R = p + spanR digP (s.data.toList.drop p) := ⟨_, rfl⟩
  rw [← hR]
  have HR := Lib.hid hR
  have HSL := Lib.hid hsl
  clear hR hsl
  have HP := Lib.hid hp
  clear hp
  go_enter Tryz.func131, Tryz.ntmps131
  go_wp2_with fail
  go_loop [1] (fun i => ∃ k : Nat, p ≤ k ∧ k ≤ s.size ∧ i = .int .i64 k ∧ Hid (∀ j d, j < k - p → (s.data.toList.drop p)[j]? = some d → digP (d.toNat : Int) = true)) (fun i => s.size - (intOf i).toNat)
  case atStart => exact ⟨p, Nat.le_refl _, HP.out, rfl, Lib.hid (fun j d h => absurd h (by omega))⟩
  case round =>
    obtain ⟨k, hpk, hk, rfl, HC⟩ := hrel
    by_cases hlt : k < s.size
    · obtain ⟨c, hc⟩ : ∃ c, c = s[k] := ⟨_, rfl⟩
      have hkc : s[k] = c := hc.symm
      have HCL := Lib.hid (show (s.data.toList.drop p)[k - p]? = some c by
        rw [List.getElem?_drop, show p + (k - p) = k by omega, hc, Array.getElem?_toList]; exact Array.getElem?_eq_getElem hlt)
      have HK := Lib.hid (fun W => kind_any (c.toNat : Int) W)
      have h2 := kindZ_is2 (c.toNat : Int)
      generalize kindZ (c.toNat : Int) = z at HK h2
      have hc255 : (c.toNat : Int) ≤ 255 := by have := c.toNat_lt; omega
      have hc0 : (0 : Int) ≤ (c.toNat : Int) := by omega
      cases hq : digP (c.toNat : Int) with
      | true =>
        rw [hq] at h2
        have HC2 := Lib.hid (show ∀ j d, j < k + 1 - p → (s.data.toList.drop p)[j]? = some d → digP (d.toNat : Int) = true from fun j d h1 h2 => by
          by_cases e : j = k - p
          · subst e; rw [HCL.out] at h2; cases h2; exact hq
          · exact HC.out j d (by omega) h2)
        clear hq hc
        go_wp2_with (first
          | (go_at_call 98; (with_reducible refine (HK.out _).mono ?_); rintro e w2 ⟨rfl, rfl⟩)
          | fail)
        go_round
        case rel => exact ⟨k + 1, by omega, by omega, by go_num, HC2⟩
        case measure => simp [intOf] <;> omega
      | false =>
        rw [hq] at h2
        have HE := Lib.hid (show R = k by rw [HR.out, span_stop digP HC.out HCL.out hq]; omega)
        clear hq hc
        go_wp2_with (first
          | (go_at_call 98; (with_reducible refine (HK.out _).mono ?_); rintro e w2 ⟨rfl, rfl⟩)
          | fail)
        go_ret
        exact ⟨by rw [HE.out]; rfl, rfl⟩
    · have HE := Lib.hid (show R = k by
        have h := span_all digP (l := s.data.toList.drop p) (fun j d h1 h2 => HC.out j d (by rw [List.length_drop, HSL.out] at h1; omega) h2)
        rw [HR.out, h, List.length_drop, HSL.out]; omega)
      go_wp2_with fail
      go_ret
      exact ⟨by rw [HE.out]; rfl, rfl⟩
end Go.Proofs.YtcgpflkaejbkhaaGreatDoor
namespace Go.Proofs.YtcgpflkaejbkhaaGreatDoor
open Go.RowKit

/-- the block of the answer, and the block of the word, seen from a base world -/
def TwoTok (w : World) (k : Int) (S : ByteArray) (a : Int) (W : World) : Prop :=
  W.heap[w.heap.size]? = some (.cells #[.int .i64 0, .string ⟨#[]⟩, .int .i64 0] 102) ∧ W.heap[w.heap.size + 1]? = some (.cells #[.int .i64 k, .string S, .int .i64 a] 102) ∧ Below w.heap.size w W
theorem slice_str (s : ByteArray) (i j : Int) (a b : Nat) (hi : i = a) (hj : j = b) (h1 : a ≤ b) (h2 : b ≤ s.size) (W : World) : (Instr.slice 9 (.string s) (some (.int .i64 i)) (some (.int .i64 j)) none).run Tryz.prog W = .ok (.string (s.extract a b)) W := by
  subst hi hj
  rw [run_slice_string W 9 s .i64 .i64 (a : Int) (b : Int) Tryz.underlying9 (by omega) (by omega) (by omega)]
  simp
theorem TwoTok.ans {w W : World} {k a : Int} {S : ByteArray} (h : TwoTok w k S a W) : W.cell? ⟨w.heap.size, 0, none⟩ = some (.int .i64 0) ∧ W.cell? ⟨w.heap.size, 1, none⟩ = some (.string ⟨#[]⟩) ∧ W.cell? ⟨w.heap.size, 2, none⟩ = some (.int .i64 0) ∧ W.frozen? ⟨w.heap.size, 0, none⟩ = false ∧ W.frozen? ⟨w.heap.size, 1, none⟩ = false ∧ W.frozen? ⟨w.heap.size, 2, none⟩ = false :=
  ⟨cell_of_row _ _ 0 _ _ _ h.1, cell_of_row _ _ 1 _ _ _ h.1, cell_of_row _ _ 2 _ _ _ h.1, frozen_of_row _ _ 0 _ _ h.1, frozen_of_row _ _ 1 _ _ h.1, frozen_of_row _ _ 2 _ _ h.1⟩
theorem TwoTok.tok {w W : World} {k a : Int} {S : ByteArray} (h : TwoTok w k S a W) : W.cell? ⟨w.heap.size + 1, 0, none⟩ = some (.int .i64 k) ∧ W.cell? ⟨w.heap.size + 1, 1, none⟩ = some (.string S) ∧ W.cell? ⟨w.heap.size + 1, 2, none⟩ = some (.int .i64 a) ∧ W.frozen? ⟨w.heap.size + 1, 0, none⟩ = false ∧ W.frozen? ⟨w.heap.size + 1, 1, none⟩ = false ∧ W.frozen? ⟨w.heap.size + 1, 2, none⟩ = false :=
  ⟨cell_of_row _ _ 0 _ _ _ h.2.1, cell_of_row _ _ 1 _ _ _ h.2.1, cell_of_row _ _ 2 _ _ _ h.2.1, frozen_of_row _ _ 0 _ _ h.2.1, frozen_of_row _ _ 1 _ _ h.2.1, frozen_of_row _ _ 2 _ _ h.2.1⟩
theorem TwoTok.start (w : World) (k : Int) (S : ByteArray) (a : Int) : TwoTok w k S a ((w.alloc (.cells #[.int .i64 0, .string ⟨#[]⟩, .int .i64 0] 102)).alloc (.cells #[.int .i64 k, .string S, .int .i64 a] 102)) := by
  refine ⟨?_, ?_, (below1 w _).alloc (by simp) _⟩
  · rw [heap_alloc_old _ _ (by simp)]
    exact heap_alloc_new w _
  · have h := heap_alloc_new (w.alloc (.cells #[.int .i64 0, .string ⟨#[]⟩, .int .i64 0] 102)) (.cells #[.int .i64 k, .string S, .int .i64 a] 102)
    rw [World.size_alloc] at h
    exact h
theorem TwoTok.keep {w W W' : World} {k a : Int} {S : ByteArray} (h : TwoTok w k S a W) (hB : Below W.heap.size W W') : TwoTok w k S a W' :=
  ⟨(hB.block _ (heap_lt h.1)).trans h.1, (hB.block _ (heap_lt h.2.1)).trans h.2.1, h.2.2.trans (hB.mono h.2.2.size)⟩
theorem TwoTok.setS {w W : World} {k a : Int} {S : ByteArray} (h : TwoTok w k S a W) (T : ByteArray) : TwoTok w k T a (W.setCell ⟨w.heap.size + 1, 1, none⟩ (.string T)) := by
  refine ⟨(heap_setFar _ (by omega)).trans h.1, ?_, h.2.2.setCell (p := ⟨w.heap.size + 1, 1, none⟩) (Nat.le_succ _) _⟩
  rw [setCell_eq_setRow W _ 1 _ 102 _ _ h.2.1, setRow_heap W _ _ _ 102 _ h.2.1]
  rfl
theorem TwoTok.setK {w W : World} {k a : Int} {S : ByteArray} (h : TwoTok w k S a W) (j : Int) : TwoTok w j S a (W.setCell ⟨w.heap.size + 1, 0, none⟩ (.int .i64 j)) := by
  refine ⟨(heap_setFar _ (by omega)).trans h.1, ?_, h.2.2.setCell (p := ⟨w.heap.size + 1, 0, none⟩) (Nat.le_succ _) _⟩
  rw [setCell_eq_setRow W _ 0 _ 102 _ _ h.2.1, setRow_heap W _ _ _ 102 _ h.2.1]
  rfl
theorem TwoTok.done {w W : World} {k a : Int} {S : ByteArray} (h : TwoTok w k S a W) (x y z : Value) : Below w.heap.size w (((W.setCell ⟨w.heap.size, 0, none⟩ x).setCell ⟨w.heap.size, 1, none⟩ y).setCell ⟨w.heap.size, 2, none⟩ z) :=
  ((h.2.2.setCell (p := ⟨w.heap.size, 0, none⟩) (Nat.le_refl _) _).setCell (p := ⟨w.heap.size, 1, none⟩) (Nat.le_refl _) _).setCell (p := ⟨w.heap.size, 2, none⟩) (Nat.le_refl _) _
theorem TwoTok.below {w W : World} {k a : Int} {S : ByteArray} (h : TwoTok w k S a W) : Below w.heap.size w W := h.2.2
theorem TwoTok.drew {w W : World} {k a : Int} {S : ByteArray} (h : TwoTok w k S a W) : TwoTok w k S a W.drew := ⟨h.1, h.2.1, h.2.2.drew⟩
/-- what a word of the document answers: its kind, its text, where it begins; the place behind it; the error -/
def wordV (k : Int) (S : ByteArray) (a q er : Int) : Value := .tuple #[tokV k S a, .int .i64 q, .int .i64 er]
/-- a word that is no name and no end, of some bytes; or an error -/
def ROther (s : ByteArray) (p : Nat) (w : World) (e : Ending) (w' : World) : Prop := ∃ (k er : Int) (S : ByteArray) (n : Nat), e = .returned (wordV k S p ((p + n : Nat) : Int) er) ∧ Below w.heap.size w w' ∧ (er = 0 → k ≠ 0 ∧ k ≠ 1 ∧ 1 ≤ n ∧ p + n ≤ s.size)
set_option maxRecDepth 100000 in
set_option maxHeartbeats 8000000 in
theorem rtext_any (s : ByteArray) (p : Nat) (w : World) (h0 : p < s.size) (hs : s.size ≤ 12) : Calls Tryz.prog 119 #[.string s, .int .i64 (p : Int)] w (ROther s p w) := by
  have HST := Lib.hid (TwoTok.start w 5 ⟨#[]⟩ p)
  have HS := Lib.hid hs
  have H0 := Lib.hid h0
  go_enter Tryz.func119, Tryz.ntmps119
  go_wp2_with fail
  go_loopw [8] (fun i wr => ∃ (k : Nat) (S : ByteArray), p + 1 ≤ k ∧ k ≤ s.size ∧ i = .int .i64 k ∧ S.size ≤ k ∧ Hid (TwoTok w 5 S p wr)) (fun i _ => s.size + 1 - (intOf i).toNat)
  case atStart => exact ⟨p + 1, ⟨#[]⟩, Nat.le_refl _, H0.out, by go_num, Nat.zero_le _, HST⟩
  case round =>
    obtain ⟨k, S, hk1, hk, rfl, hS, HB⟩ := hrel
    obtain ⟨wo, rfl⟩ : ∃ wo : World, wo = wr := ⟨_, rfl⟩
    obtain ⟨q0, q1, q2, f0, f1, f2⟩ := HB.out.ans
    obtain ⟨r0, r1, r2, g0, g1, g2⟩ := HB.out.tok
    by_cases hlt : k < s.size
    · obtain ⟨c, hc⟩ : ∃ c, c = s[k] := ⟨_, rfl⟩
      have hkc : s[k] = c := hc.symm
      have hc255 : (c.toNat : Int) ≤ 255 := by have := c.toNat_lt; omega
      have hc0 : (0 : Int) ≤ (c.toNat : Int) := by omega
      clear hc
      by_cases h39 : c = 39
      · subst h39
        have hcn : (((39 : UInt8).toNat : Nat) : Int) = 39 := rfl
        have hend : k + 1 = s.size ∨ ∃ (h : k + 1 < s.size) (d : UInt8), s[k + 1] = d := by
          by_cases h : k + 1 = s.size
          · exact Or.inl h
          · exact Or.inr ⟨by omega, _, rfl⟩
        have hkk : ((k : Int) + 1).toNat = k + 1 := by omega
        rcases hend with hend | ⟨hlt2, d, hd⟩
        · have hq : ((k : Int) + 1 == (s.size : Int)) = true := by rw [beq_iff_eq]; omega
          go_wp2_with fail
          refine bodyPost_ret (v := wordV 5 S p ((p + (k + 1 - p) : Nat) : Int) 0) (by simp [results, Tryz.results119, go_sem, q0, q1, q2, wordV, tokV]; omega) rfl ⟨5, 0, S, k + 1 - p, rfl, HB.out.done _ _ _, fun _ => ⟨by decide, by decide, by omega, by omega⟩⟩
        · have hq : ((k : Int) + 1 == (s.size : Int)) = false := by rw [beq_eq_false_iff_ne]; omega
          have hd255 : (d.toNat : Int) ≤ 255 := by have := d.toNat_lt; omega
          have hd0 : (0 : Int) ≤ (d.toNat : Int) := by omega
          by_cases h39 : d = 39
          · subst h39
            obtain ⟨V, hV⟩ : ∃ V : ByteArray, V = S ++ ⟨#[39]⟩ := ⟨_, rfl⟩
            have hone : (⟨#[39]⟩ : ByteArray).size = 1 := rfl
            have hadd : ∀ W, (Op.stringOp .add S ⟨#[39]⟩).run Tryz.prog W = .ok (.string V) W := fun W => by rw [hV]; exact add_text W _ _ (by rw [hone]; have := HS.out; omega)
            have hVs : V.size ≤ k + 2 := by rw [hV, ByteArray.size_append, hone]; omega
            have HN := Lib.hid (HB.out.setS V)
            clear hV hone
            go_wp2_with fail
            go_roundw
            case rel => exact ⟨k + 2, V, by omega, by omega, by go_num, hVs, HN⟩
            case measure => simp [intOf] <;> omega
          · have hdn : ((d.toNat : Int) == 39) = false := by
              rw [beq_eq_false_iff_ne]
              intro h
              exact h39 (UInt8.toNat_inj.1 (by simp; omega))
            clear h39
            go_wp2_with fail
            refine bodyPost_ret (v := wordV 5 S p ((p + (k + 1 - p) : Nat) : Int) 0) (by simp [results, Tryz.results119, go_sem, q0, q1, q2, wordV, tokV]; omega) rfl ⟨5, 0, S, k + 1 - p, rfl, HB.out.done _ _ _, fun _ => ⟨by decide, by decide, by omega, by omega⟩⟩
      · have hcn : ((c.toNat : Int) == 39) = false := by
          rw [beq_eq_false_iff_ne]
          intro h
          exact h39 (UInt8.toNat_inj.1 (by simp; omega))
        obtain ⟨T, hT⟩ : ∃ T, T = s.extract k (k + 1) := ⟨_, rfl⟩
        have hT2 : s.extract k (k + 1) = T := hT.symm
        have hT1 : T.size = 1 := by rw [hT, ByteArray.size_extract]; omega
        obtain ⟨V, hV⟩ : ∃ V : ByteArray, V = S ++ T := ⟨_, rfl⟩
        have hadd : ∀ W, (Op.stringOp .add S T).run Tryz.prog W = .ok (.string V) W := fun W => by rw [hV]; exact add_text W _ _ (by have := HS.out; omega)
        have hVs : V.size ≤ k + 1 := by rw [hV, ByteArray.size_append]; omega
        have HN := Lib.hid (HB.out.setS V).drew
        have hw1 : IntKind.i64.wrap ((k : Int) + 1) = (k : Int) + 1 := IntWalk.i64_in _ (by omega)
        have hw2 : ∀ W, (Instr.slice 9 (.string s) (some (.int .i64 (k : Int))) (some (.int .i64 ((k : Int) + 1))) none).run Tryz.prog W = .ok (.string T) W := fun W => by rw [hT]; exact slice_str s _ _ k (k + 1) rfl (by omega) (by omega) (by omega) W
        clear h39 hT hV
        go_wp2_with fail
        go_region
        clear hw1 hw2
        go_wp2_with fail
        go_roundw
        case rel => exact ⟨k + 1, V, by omega, by omega, by go_num, hVs, HN⟩
        case measure => simp [intOf] <;> omega
    · go_wp2_with fail
      refine bodyPost_ret (v := wordV 5 S p p 10) (by simp [results, Tryz.results119, go_sem, q0, q1, q2, wordV, tokV]) rfl ⟨5, 10, S, 0, rfl, HB.out.done _ _ _, fun h => absurd h (by decide)⟩
end Go.Proofs.YtcgpflkaejbkhaaGreatDoor
namespace Go.Proofs.YtcgpflkaejbkhaaGreatDoor
open Go.RowKit

theorem drop_list2 (s : ByteArray) (p : Nat) : (s.extract p s.size).data.toList = s.data.toList.drop p := by
  have hsl : s.data.toList.length = s.size := by show _ = s.data.size; simp
  rw [ByteArray.data_extract, Array.toList_extract, List.extract_eq_take_drop, List.take_of_length_le]
  rw [List.length_drop, hsl]
  exact Nat.le_refl _
/-- every number with a fraction within a short text is read -/
theorem floats_at (m : Int) (t : Nat → Nat) (ht : ∀ j, j < 23 → finD (Ieee.double.read (t j)) = true) {s : ByteArray} (hs : s.size ≤ 12) {p n k : Nat} (hn1 : 1 ≤ n) (hn : n = spanR digP (s.data.toList.drop p)) (hk : k = spanR digP (s.data.toList.drop (p + n + 1))) (hd : s.data.toList[p + n]? = some 46) (hk0 : 0 < k) : p + n + 1 + k ≤ s.size ∧ ReadsF m t (s.extract p (p + n + 1 + k)) := by
  have hsl : s.data.toList.length = s.size := by show _ = s.data.size; simp
  have hle : p + n + 1 + k ≤ s.size := by
    have h := spanR_le digP (s.data.toList.drop (p + n + 1))
    rw [← hk, List.length_drop, hsl] at h
    omega
  obtain ⟨U, hU⟩ : ∃ U, U = s.extract p s.size := ⟨_, rfl⟩
  have hUL : U.data.toList = s.data.toList.drop p := by rw [hU]; exact drop_list2 s p
  have hUs : U.size = s.size - p := by rw [hU, ByteArray.size_extract]; omega
  have hUU : s.extract p (p + n + 1 + k) = U.extract 0 (n + (1 + k)) := by
    rw [hU, ByteArray.extract_extract, Nat.add_zero, Nat.min_eq_left (by omega)]
    congr 1
    omega
  rw [hUU]
  refine ⟨hle, parse_any m t ht _ n (floats_in (s := U) (k := k) (by omega) (by show _ = U.data.size; simp) hn1 (by rw [hUL]; exact hn) ?_ ?_ hk0)⟩
  · rw [hUL, List.drop_drop, show p + (n + 1) = p + n + 1 by omega]; exact hk
  · rw [hUL, List.getElem?_drop]; exact hd
set_option maxRecDepth 100000 in
set_option maxHeartbeats 8000000 in
theorem rnumber_any (m : Int) (t : Nat → Nat) (ht : ∀ j, j < 23 → finD (Ieee.double.read (t j)) = true) (s : ByteArray) (p : Nat) (w : World) (hG : Glob m t w) (h0 : p < s.size) (hs : s.size ≤ 12) (hd : digP (s[p].toNat : Int) = true) :
    Calls Tryz.prog 118 #[.string s, .int .i64 (p : Int)] w (ROther s p w) := by
  have HG := Lib.hid hG
  have HST := Lib.hid (TwoTok.start w 3 ⟨#[]⟩ p)
  have hsl : s.data.toList.length = s.size := by show _ = s.data.size; simp
  have hpf := fun n k => floats_at m t ht (s := s) hs (p := p) (n := n) (k := k)
  obtain ⟨n, hn⟩ : ∃ n, n = spanR digP (s.data.toList.drop p) := ⟨_, rfl⟩
  have hn1 : 1 ≤ n := by
    have h := span_pos digP (s.extract p s.size) (by rw [ByteArray.size_extract]; omega) (by
      have e : (s.extract p s.size)[0]'(by rw [ByteArray.size_extract]; omega) = s[p] := by simp [ByteArray.getElem_extract]
      rw [e]; exact hd)
    rw [drop_list2, ← hn] at h
    exact h
  have hle := spanR_le digP (s.data.toList.drop p)
  rw [← hn, List.length_drop, hsl] at hle
  have HD1 := Lib.hid (fun W => digits_any s p W (by omega) (by omega))
  rw [← hn] at HD1
  obtain ⟨e, he⟩ : ∃ e, e = p + n := ⟨_, rfl⟩
  rw [← he] at HD1
  have hes : e ≤ s.size := by omega
  obtain ⟨c, hc⟩ : ∃ c, c = s[p] := ⟨_, rfl⟩
  have hkc : s[p] = c := hc.symm
  have hc255 : (c.toNat : Int) ≤ 255 := by have := c.toNat_lt; omega
  have hc0 : (0 : Int) ≤ (c.toNat : Int) := by omega
  have hpe : p + 1 ≤ e := by omega
  clear hG ht hle hd hc
  by_cases hz : 1 < n ∧ c = 48
  · obtain ⟨hz1, rfl⟩ := hz
    have hz2 : (((48 : UInt8).toNat : Nat) : Int) = 48 := rfl
    have hz3 : ((p : Int) + 1 < (e : Int)) = True := eq_true (by omega)
    clear hpf hsl
    go_enter Tryz.func118, Tryz.ntmps118
    go_wp2_with (first
      | (go_at_call 131; (with_reducible refine (HD1.out _).mono ?_); rintro e w3 ⟨rfl, rfl⟩)
      | fail)
    exact bodyPost_ret (v := wordV 3 ⟨#[]⟩ p ((p + 0 : Nat) : Int) 7) (by simp [results, Tryz.results118, go_sem, wordV, tokV]) rfl ⟨3, 7, ⟨#[]⟩, 0, rfl, (below1 w _).alloc (by simp) _, fun h => absurd h (by decide)⟩
  · have hz3 : ((((p : Int) + 1 < (e : Int)) = False) ∧ ((c.toNat : Int) == 48) = true) ∨ (((c.toNat : Int) == 48) = false) := by
      by_cases h1 : c = 48
      · left
        exact ⟨eq_false (fun h => hz ⟨by omega, h1⟩), by rw [h1]; rfl⟩
      · right
        rw [beq_eq_false_iff_ne]
        intro h
        exact h1 (UInt8.toNat_inj.1 (by simp; omega))
    clear hz
    have hen : p + n + 1 = e + 1 := by omega
    have hee : s.data.toList[p + n]? = s.data.toList[e]? := by rw [he]
    have HPF := Lib.hid (fun k => hpf n k hn1 hn)
    rw [hee, hen] at HPF
    have HSZ := Lib.hid hs
    have HE := Lib.hid he
    clear hpf hee hen hsl he hn
    by_cases hdot : ∃ (h : e + 1 < s.size), s[e] = 46 ∧ digP (s[e + 1].toNat : Int) = true
    · obtain ⟨hlt, hd1, hd2⟩ := hdot
      obtain ⟨d, hd⟩ : ∃ d, d = s[e + 1] := ⟨_, rfl⟩
      have hd3 : s[e + 1] = d := hd.symm
      rw [hd3] at hd2
      have HK := Lib.hid (fun W => kind_any (d.toNat : Int) W)
      rw [kindZ_dig (dig_not_let hd2) hd2] at HK
      obtain ⟨k, hk⟩ : ∃ k, k = spanR digP (s.data.toList.drop (e + 1)) := ⟨_, rfl⟩
      have hk0 : 0 < k := by
        have h := span_pos digP (s.extract (e + 1) s.size) (by rw [ByteArray.size_extract]; omega) (by
          have e' : (s.extract (e + 1) s.size)[0]'(by rw [ByteArray.size_extract]; omega) = s[e + 1] := by simp [ByteArray.getElem_extract]
          rw [e', hd3]; exact hd2)
        rw [drop_list2, ← hk] at h
        exact h
      obtain ⟨hle2, f, hf⟩ := HPF.out k hk (by rw [Array.getElem?_toList]; show s.data[e]? = _; rw [Array.getElem?_eq_getElem (show e < s.data.size from by show e < s.size; omega)]; exact congrArg some hd1) hk0
      have HD2 := Lib.hid (fun W => digits_any s (e + 1) W (by omega) (by omega))
      rw [← hk] at HD2
      obtain ⟨e2, he2⟩ : ∃ e2, e2 = e + 1 + k := ⟨_, rfl⟩
      rw [← he2] at HD2 hf hle2
      have HD2 := Lib.hid (show ∀ W, Calls Tryz.prog 131 #[.string s, .int .i64 ((e : Int) + 1)] W (SameV (.int .i64 (e2 : Int)) W) from HD2.out)
      obtain ⟨V, hV⟩ : ∃ V, V = s.extract p e2 := ⟨_, rfl⟩
      rw [← hV] at hf
      have HF := Lib.hid hf
      have hw2 : ∀ W, (Instr.slice 9 (.string s) (some (.int .i64 (p : Int))) (some (.int .i64 (e2 : Int))) none).run Tryz.prog W = .ok (.string V) W := fun W => by rw [hV]; exact slice_str s _ _ p e2 rfl rfl (by omega) (by omega) W
      have h46 : (((46 : UInt8).toNat : Nat) : Int) = 46 := rfl
      have hkk : ((e : Int) + 1).toNat = e + 1 := by omega
      have hd255 : (d.toNat : Int) ≤ 255 := by have := d.toNat_lt; omega
      have hd0 : (0 : Int) ≤ (d.toNat : Int) := by omega
      have HE2 := Lib.hid (show e2 = p + (n + 1 + k) by have := HE.out; omega)
      have HEN := Lib.hid (show ((p + (n + 1 + k) : Nat) : Int) = (e2 : Int) by have := HE2.out; omega)
      have HLE2 := Lib.hid hle2
      have HW4 := Lib.hid (TwoTok.start w 4 V p).drew
      obtain ⟨o, ho, hb⟩ : ∃ o, FloatKind.f64.format.order f 4831355200913801216 = o ∧ ((o = some .gt ∨ o = some .eq ∨ o = none) ∨ o = some .lt) := by
        cases FloatKind.f64.format.order f 4831355200913801216 with
        | none => exact ⟨none, rfl, Or.inl (Or.inr (Or.inr rfl))⟩
        | some o => cases o with
          | lt => exact ⟨_, rfl, Or.inr rfl⟩
          | eq => exact ⟨_, rfl, Or.inl (Or.inr (Or.inl rfl))⟩
          | gt => exact ⟨_, rfl, Or.inl (Or.inl rfl)⟩
      clear hf hV hk he2 hd hd2 hle2
      rcases hb with hb | rfl
      · rcases hb with rfl | rfl | rfl
        all_goals rcases hz3 with ⟨hz3, hz4⟩ | hz3
        all_goals
          go_enter Tryz.func118, Tryz.ntmps118
          go_wp2_with (first
            | (go_at_call 131; first
              | ((with_reducible refine (HD1.out _).mono ?_); rintro e' w3 ⟨rfl, rfl⟩)
              | ((with_reducible refine (HD2.out _).mono ?_); rintro e' w3 ⟨rfl, rfl⟩))
            | (go_at_call 98; (with_reducible refine (HK.out _).mono ?_); rintro e' w4 ⟨rfl, rfl⟩)
            | fail)
          go_region
          go_wp2_with (first
            | (go_at_call 124; (with_reducible refine (HF.out _ (HG.out.keep HW4.out.below)).mono ?_); rintro e' w7 ⟨rfl, hB7⟩; have HT := Lib.hid (HW4.out.keep hB7); obtain ⟨q0, q1, q2, f0, f1, f2⟩ := HT.out.ans; obtain ⟨r0, r1, r2, g0, g1, g2⟩ := HT.out.tok; clear hB7)
            | fail)
          refine bodyPost_ret (v := wordV 4 V p ((p + 0 : Nat) : Int) 4) (by simp [results, Tryz.results118, go_sem, q0, q1, q2, wordV, tokV]) rfl ⟨4, 4, V, 0, rfl, HT.out.done _ _ _, fun h => absurd h (by decide)⟩
      · rcases hz3 with ⟨hz3, hz4⟩ | hz3
        all_goals
          go_enter Tryz.func118, Tryz.ntmps118
          go_wp2_with (first
            | (go_at_call 131; first
              | ((with_reducible refine (HD1.out _).mono ?_); rintro e' w3 ⟨rfl, rfl⟩)
              | ((with_reducible refine (HD2.out _).mono ?_); rintro e' w3 ⟨rfl, rfl⟩))
            | (go_at_call 98; (with_reducible refine (HK.out _).mono ?_); rintro e' w4 ⟨rfl, rfl⟩)
            | fail)
          go_region
          go_wp2_with (first
            | (go_at_call 124; (with_reducible refine (HF.out _ (HG.out.keep HW4.out.below)).mono ?_); rintro e' w7 ⟨rfl, hB7⟩; have HT := Lib.hid (HW4.out.keep hB7); obtain ⟨q0, q1, q2, f0, f1, f2⟩ := HT.out.ans; obtain ⟨r0, r1, r2, g0, g1, g2⟩ := HT.out.tok; clear hB7)
            | fail)
          refine bodyPost_ret (v := wordV 4 V p e2 0) (by simp [results, Tryz.results118, go_sem, q0, q1, q2, wordV, tokV]) rfl ⟨4, 0, V, n + 1 + k, by rw [HEN.out], HT.out.done _ _ _, fun _ => ⟨by decide, by decide, by omega, by have := HE2.out; have := HLE2.out; omega⟩⟩
    · have hdn : (((e : Int) + 1 < (s.size : Int)) = False) ∨ (∃ (h : e + 1 < s.size) (d : UInt8), s[e] = d ∧ ((d.toNat : Int) == 46) = false) ∨ (∃ (h : e + 1 < s.size) (d : UInt8), s[e] = 46 ∧ s[e + 1] = d ∧ (kindZ (d.toNat : Int) == 2) = false) := by
        by_cases h1 : e + 1 < s.size
        · right
          by_cases h2 : s[e] = 46
          · refine Or.inr ⟨h1, _, h2, rfl, ?_⟩
            rw [kindZ_is2]
            cases h3 : digP (s[e + 1].toNat : Int) with
            | false => rfl
            | true => exact absurd ⟨h1, h2, h3⟩ hdot
          · refine Or.inl ⟨h1, _, rfl, ?_⟩
            rw [beq_eq_false_iff_ne]
            intro h
            exact h2 (UInt8.toNat_inj.1 (by simp; omega))
        · exact Or.inl (eq_false (by omega))
      obtain ⟨V, hV⟩ : ∃ V, V = s.extract p e := ⟨_, rfl⟩
      have hw2 : ∀ W, (Instr.slice 9 (.string s) (some (.int .i64 (p : Int))) (some (.int .i64 (e : Int))) none).run Tryz.prog W = .ok (.string V) W := fun W => by rw [hV]; exact slice_str s _ _ p e rfl rfl (by omega) (by omega) W
      have h19 : ((19 : Int) < (e : Int) - (p : Int)) = False := eq_false (by have := HSZ.out; omega)
      have h19b : ((e : Int) - (p : Int) == 19) = false := by
        rw [beq_eq_false_iff_ne]
        have := HSZ.out
        omega
      have HEN := Lib.hid (show ((p + n : Nat) : Int) = (e : Int) by have := HE.out; omega)
      have h46 : (((46 : UInt8).toNat : Nat) : Int) = 46 := rfl
      have hkk : ((e : Int) + 1).toNat = e + 1 := by omega
      clear hV hdot
      rcases hdn with hdn | ⟨hlt, d, hd, hdn⟩ | ⟨hlt, d, hd, hd2, hdn⟩
      · rcases hz3 with ⟨hz3, hz4⟩ | hz3
        all_goals
          go_enter Tryz.func118, Tryz.ntmps118
          go_wp2_with (first
            | (go_at_call 131; (with_reducible refine (HD1.out _).mono ?_); rintro e' w3 ⟨rfl, rfl⟩)
            | fail)
          all_goals exact bodyPost_ret (v := wordV 3 V p e 0) (by simp [results, Tryz.results118, go_sem, wordV, tokV]) rfl ⟨3, 0, V, n, by rw [HEN.out], (below1 w _).alloc (by simp) _, fun _ => ⟨by decide, by decide, hn1, by have := HE.out; omega⟩⟩
      · have hd255 : (d.toNat : Int) ≤ 255 := by have := d.toNat_lt; omega
        have hd0 : (0 : Int) ≤ (d.toNat : Int) := by omega
        rcases hz3 with ⟨hz3, hz4⟩ | hz3
        all_goals
          go_enter Tryz.func118, Tryz.ntmps118
          go_wp2_with (first
            | (go_at_call 131; (with_reducible refine (HD1.out _).mono ?_); rintro e' w3 ⟨rfl, rfl⟩)
            | fail)
          all_goals exact bodyPost_ret (v := wordV 3 V p e 0) (by simp [results, Tryz.results118, go_sem, wordV, tokV]) rfl ⟨3, 0, V, n, by rw [HEN.out], (below1 w _).alloc (by simp) _, fun _ => ⟨by decide, by decide, hn1, by have := HE.out; omega⟩⟩
      · have HK := Lib.hid (fun W => kind_any (d.toNat : Int) W)
        generalize kindZ (d.toNat : Int) = z at HK hdn
        have hd255 : (d.toNat : Int) ≤ 255 := by have := d.toNat_lt; omega
        have hd0 : (0 : Int) ≤ (d.toNat : Int) := by omega
        rcases hz3 with ⟨hz3, hz4⟩ | hz3
        all_goals
          go_enter Tryz.func118, Tryz.ntmps118
          go_wp2_with (first
            | (go_at_call 131; (with_reducible refine (HD1.out _).mono ?_); rintro e' w3 ⟨rfl, rfl⟩)
            | (go_at_call 98; (with_reducible refine (HK.out _).mono ?_); rintro e' w4 ⟨rfl, rfl⟩)
            | fail)
          all_goals exact bodyPost_ret (v := wordV 3 V p e 0) (by simp [results, Tryz.results118, go_sem, wordV, tokV]) rfl ⟨3, 0, V, n, by rw [HEN.out], (below1 w _).alloc (by simp) _, fun _ => ⟨by decide, by decide, hn1, by have := HE.out; omega⟩⟩
end Go.Proofs.YtcgpflkaejbkhaaGreatDoor
