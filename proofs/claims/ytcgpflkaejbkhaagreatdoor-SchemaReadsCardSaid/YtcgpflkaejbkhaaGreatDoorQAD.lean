/- The walk of the document's text. -/
import Derived.Test.YtcgpflkaejbkhaaGreatDoorQAC
import Derived.Test.YtcgpflkaejbkhaaGreatDoorQAA
import Derived.Laws.FloatArith
import Derived.WalkMore
namespace Go.Proofs.YtcgpflkaejbkhaaGreatDoor
open Go.RowKit

def TwoTok (w : World) (k : Int) (S : ByteArray) (a : Int) (W : World) : Prop :=
 W.heap[w.heap.size]? = some (.cells #[.int .i64 0, .string ⟨#[]⟩, .int .i64 0] 102) ∧ W.heap[w.heap.size + 1]? = some (.cells #[.int .i64 k, .string S, .int .i64 a] 102) ∧ Below w.heap.size w W
theorem slice_str (s : ByteArray) (i j : Int) (a b : Nat) (hi : i = a) (hj : j = b) (h1 : a ≤ b) (h2 : b ≤ s.size) (W : World) : (Instr.slice 9 (.string s) (some (.int .i64 i)) (some (.int .i64 j)) none).run Tryz.prog W = .ok (.string (s.extract a b)) W := by
 subst hi hj
 rw [run_slice_string W 9 s .i64 .i64 (a : Int) (b : Int) Tryz.underlying9 (by omega) (by omega) (by omega)]
 simp
theorem TwoTok.ans {w W : World} {k a : Int} {S : ByteArray} (h : TwoTok w k S a W) : W.cell? ⟨w.heap.size, 0, none⟩ = some (.int .i64 0) ∧ W.cell? ⟨w.heap.size, 1, none⟩ = some (.string ⟨#[]⟩) ∧ W.cell? ⟨w.heap.size, 2, none⟩ = some (.int .i64 0) ∧ W.frozen? ⟨w.heap.size, 0, none⟩ = false ∧ W.frozen? ⟨w.heap.size, 1, none⟩ = false ∧ W.frozen? ⟨w.heap.size, 2, none⟩ = false :=
 ⟨cell_of_row _ _ 0 _ _ _ h.1, cell_of_row _ _ 1 _ _ _ h.1, cell_of_row _ _ 2 _ _ _ h.1, frozen_of_row _ _ 0 _ _ h.1, frozen_of_row _ _ 1 _ _ h.1, frozen_of_row _ _ 2 _ _ h.1⟩
theorem TwoTok.tok {w W : World} {k a : Int} {S : ByteArray} (h : TwoTok w k S a W) : W.cell? ⟨w.heap.size + 1, 0, none⟩ = some (.int .i64 k) ∧ W.cell? ⟨w.heap.size + 1, 1, none⟩ = some (.string S) ∧ W.cell? ⟨w.heap.size + 1, 2, none⟩ = some (.int .i64 a) ∧ W.frozen? ⟨w.heap.size + 1, 0, none⟩ = false ∧ W.frozen? ⟨w.heap.size + 1, 1, none⟩ = false ∧ W.frozen? ⟨w.heap.size + 1, 2, none⟩ = false :=
 ⟨cell_of_row _ _ 0 _ _ _ h.2.1, cell_of_row _ _ 1 _ _ _ h.2.1, cell_of_row _ _ 2 _ _ _ h.2.1, frozen_of_row _ _ 0 _ _ h.2.1, frozen_of_row _ _ 1 _ _ h.2.1, frozen_of_row _ _ 2 _ _ h.2.1⟩
theorem TwoTok.start (w : World) (k : Int) (S : ByteArray) (a : Int) : TwoTok w k S a ((w.alloc (.cells #[.int .i64 0, .string ⟨#[]⟩, .int .i64 0] 102)).alloc (.cells #[.int .i64 k, .string S, .int .i64 a] 102)) := by
 refine ⟨?_, ?_, (below1 w _).alloc (by simp) _⟩
 · rw [heap_alloc_old _ _ (by simp)]
   exact heap_alloc_new w _
 · have h := heap_alloc_new (w.alloc (.cells #[.int .i64 0, .string ⟨#[]⟩, .int .i64 0] 102)) (.cells #[.int .i64 k, .string S, .int .i64 a] 102)
   rw [World.size_alloc] at h
   exact h
theorem TwoTok.keep {w W W' : World} {k a : Int} {S : ByteArray} (h : TwoTok w k S a W) (hB : Below W.heap.size W W') : TwoTok w k S a W' :=
 ⟨(hB.block _ (heap_lt h.1)).trans h.1, (hB.block _ (heap_lt h.2.1)).trans h.2.1, h.2.2.trans (hB.mono h.2.2.size)⟩
theorem TwoTok.setS {w W : World} {k a : Int} {S : ByteArray} (h : TwoTok w k S a W) (T : ByteArray) : TwoTok w k T a (W.setCell ⟨w.heap.size + 1, 1, none⟩ (.string T)) := by
 refine ⟨(heap_setFar _ (by omega)).trans h.1, ?_, h.2.2.setCell (p := ⟨w.heap.size + 1, 1, none⟩) (Nat.le_succ _) _⟩
 rw [setCell_eq_setRow W _ 1 _ 102 _ _ h.2.1, setRow_heap W _ _ _ 102 _ h.2.1]
 rfl
theorem TwoTok.setK {w W : World} {k a : Int} {S : ByteArray} (h : TwoTok w k S a W) (j : Int) : TwoTok w j S a (W.setCell ⟨w.heap.size + 1, 0, none⟩ (.int .i64 j)) := by
 refine ⟨(heap_setFar _ (by omega)).trans h.1, ?_, h.2.2.setCell (p := ⟨w.heap.size + 1, 0, none⟩) (Nat.le_succ _) _⟩
 rw [setCell_eq_setRow W _ 0 _ 102 _ _ h.2.1, setRow_heap W _ _ _ 102 _ h.2.1]
 rfl
theorem TwoTok.done {w W : World} {k a : Int} {S : ByteArray} (h : TwoTok w k S a W) (x y z : Value) : Below w.heap.size w (((W.setCell ⟨w.heap.size, 0, none⟩ x).setCell ⟨w.heap.size, 1, none⟩ y).setCell ⟨w.heap.size, 2, none⟩ z) :=
 ((h.2.2.setCell (p := ⟨w.heap.size, 0, none⟩) (Nat.le_refl _) _).setCell (p := ⟨w.heap.size, 1, none⟩) (Nat.le_refl _) _).setCell (p := ⟨w.heap.size, 2, none⟩) (Nat.le_refl _) _
theorem TwoTok.below {w W : World} {k a : Int} {S : ByteArray} (h : TwoTok w k S a W) : Below w.heap.size w W := h.2.2
theorem TwoTok.drew {w W : World} {k a : Int} {S : ByteArray} (h : TwoTok w k S a W) : TwoTok w k S a W.drew := ⟨h.1, h.2.1, h.2.2.drew⟩
def wordV (k : Int) (S : ByteArray) (a q er : Int) : Value := .tuple #[tokV k S a, .int .i64 q, .int .i64 er]
def ROther (s : ByteArray) (p : Nat) (w : World) (e : Ending) (w' : World) : Prop := ∃ (k er : Int) (S : ByteArray) (n : Nat), e = .returned (wordV k S p ((p + n : Nat) : Int) er) ∧ Below w.heap.size w w' ∧ (er = 0 → k ≠ 0 ∧ k ≠ 1 ∧ 1 ≤ n ∧ p + n ≤ s.size)
set_option maxRecDepth 100000 in
set_option maxHeartbeats 8000000 in
theorem rtext_any (s : ByteArray) (p : Nat) (w : World) (h0 : p < s.size) (hs : s.size ≤ 12) : Calls Tryz.prog 119 #[.string s, .int .i64 (p : Int)] w (ROther s p w) := by
 have HST := Lib.hid (TwoTok.start w 5 ⟨#[]⟩ p)
 have HS := Lib.hid hs
 have H0 := Lib.hid h0
 go_enter Tryz.func119, Tryz.ntmps119
 go_wp2_with fail
 go_loopw [8] (fun i wr => ∃ (k : Nat) (S : ByteArray), p + 1 ≤ k ∧ k ≤ s.size ∧ i = .int .i64 k ∧ S.size ≤ k ∧ Hid (TwoTok w 5 S p wr)) (fun i _ => s.size + 1 - (intOf i).toNat)
 case atStart => exact ⟨p + 1, ⟨#[]⟩, Nat.le_refl _, H0.out, by go_num, Nat.zero_le _, HST⟩
 case round =>
   obtain ⟨k, S, hk1, hk, rfl, hS, HB⟩ := hrel
   obtain ⟨wo, rfl⟩ : ∃ wo : World, wo = wr := ⟨_, rfl⟩
   obtain ⟨q0, q1, q2, f0, f1, f2⟩ := HB.out.ans
   obtain ⟨r0, r1, r2, g0, g1, g2⟩ := HB.out.tok
   by_cases hlt : k < s.size
   · obtain ⟨c, hc⟩ : ∃ c, c = s[k] := ⟨_, rfl⟩
     have hkc : s[k] = c := hc.symm
     have hc255 : (c.toNat : Int) ≤ 255 := by have := c.toNat_lt; omega
     have hc0 : (0 : Int) ≤ (c.toNat : Int) := by omega
     clear hc
     by_cases h39 : c = 39
     · subst h39
       have hcn : (((39 : UInt8).toNat : Nat) : Int) = 39 := rfl
       have hend : k + 1 = s.size ∨ ∃ (h : k + 1 < s.size) (d : UInt8), s[k + 1] = d := by
         by_cases h : k + 1 = s.size
         · exact Or.inl h
         · exact Or.inr ⟨by omega, _, rfl⟩
       have hkk : ((k : Int) + 1).toNat = k + 1 := by omega
       rcases hend with hend | ⟨hlt2, d, hd⟩
       · have hq : ((k : Int) + 1 == (s.size : Int)) = true := by rw [beq_iff_eq]; omega
         go_wp2_with fail
         refine bodyPost_ret (v := wordV 5 S p ((p + (k + 1 - p) : Nat) : Int) 0) (by simp [results, Tryz.results119, go_sem, q0, q1, q2, wordV, tokV]; omega) rfl ⟨5, 0, S, k + 1 - p, rfl, HB.out.done _ _ _, fun _ => ⟨by decide, by decide, by omega, by omega⟩⟩
       · have hq : ((k : Int) + 1 == (s.size : Int)) = false := by rw [beq_eq_false_iff_ne]; omega
         have hd255 : (d.toNat : Int) ≤ 255 := by have := d.toNat_lt; omega
         have hd0 : (0 : Int) ≤ (d.toNat : Int) := by omega
         by_cases h39 : d = 39
         · subst h39
           obtain ⟨V, hV⟩ : ∃ V : ByteArray, V = S ++ ⟨#[39]⟩ := ⟨_, rfl⟩
           have hone : (⟨#[39]⟩ : ByteArray).size = 1 := rfl
           have hadd : ∀ W, (Op.stringOp .add S ⟨#[39]⟩).run Tryz.prog W = .ok (.string V) W := fun W => by rw [hV]; exact add_text W _ _ (by rw [hone]; have := HS.out; omega)
           have hVs : V.size ≤ k + 2 := by rw [hV, ByteArray.size_append, hone]; omega
           have HN := Lib.hid (HB.out.setS V)
           clear hV hone
           go_wp2_with fail
           go_roundw
           case rel => exact ⟨k + 2, V, by omega, by omega, by go_num, hVs, HN⟩
           case measure => simp [intOf] <;> omega
         · have hdn : ((d.toNat : Int) == 39) = false := by
             rw [beq_eq_false_iff_ne]
             intro h
             exact h39 (UInt8.toNat_inj.1 (by simp; omega))
           clear h39
           go_wp2_with fail
           refine bodyPost_ret (v := wordV 5 S p ((p + (k + 1 - p) : Nat) : Int) 0) (by simp [results, Tryz.results119, go_sem, q0, q1, q2, wordV, tokV]; omega) rfl ⟨5, 0, S, k + 1 - p, rfl, HB.out.done _ _ _, fun _ => ⟨by decide, by decide, by omega, by omega⟩⟩
     · have hcn : ((c.toNat : Int) == 39) = false := by
         rw [beq_eq_false_iff_ne]
         intro h
         exact h39 (UInt8.toNat_inj.1 (by simp; omega))
       obtain ⟨T, hT⟩ : ∃ T, T = s.extract k (k + 1) := ⟨_, rfl⟩
       have hT2 : s.extract k (k + 1) = T := hT.symm
       have hT1 : T.size = 1 := by rw [hT, ByteArray.size_extract]; omega
       obtain ⟨V, hV⟩ : ∃ V : ByteArray, V = S ++ T := ⟨_, rfl⟩
       have hadd : ∀ W, (Op.stringOp .add S T).run Tryz.prog W = .ok (.string V) W := fun W => by rw [hV]; exact add_text W _ _ (by have := HS.out; omega)
       have hVs : V.size ≤ k + 1 := by rw [hV, ByteArray.size_append]; omega
       have HN := Lib.hid (HB.out.setS V).drew
       have hw1 : IntKind.i64.wrap ((k : Int) + 1) = (k : Int) + 1 := IntWalk.i64_in _ (by omega)
       have hw2 : ∀ W, (Instr.slice 9 (.string s) (some (.int .i64 (k : Int))) (some (.int .i64 ((k : Int) + 1))) none).run Tryz.prog W = .ok (.string T) W := fun W => by rw [hT]; exact slice_str s _ _ k (k + 1) rfl (by omega) (by omega) (by omega) W
       clear h39 hT hV
       go_wp2_with fail
       go_region
       clear hw1 hw2
       go_wp2_with fail
       go_roundw
       case rel => exact ⟨k + 1, V, by omega, by omega, by go_num, hVs, HN⟩
       case measure => simp [intOf] <;> omega
   · go_wp2_with fail
     refine bodyPost_ret (v := wordV 5 S p p 10) (by simp [results, Tryz.results119, go_sem, q0, q1, q2, wordV, tokV]) rfl ⟨5, 10, S, 0, rfl, HB.out.done _ _ _, fun h => absurd h (by decide)⟩
end Go.Proofs.YtcgpflkaejbkhaaGreatDoor
namespace Go.Proofs.YtcgpflkaejbkhaaGreatDoor
open Go.RowKit

def nameB (L : List UInt8) : Bool := decide (L.length ≤ 12) && L.head?.any (fun c => letP (c.toNat : Int)) && L.all (fun c => namP (c.toNat : Int)) && decide (kwR L = [])
theorem nameB_iff {L : List UInt8} : nameB L = true ↔ L.length ≤ 12 ∧ (∃ c r, L = c :: r ∧ letP (c.toNat : Int) = true) ∧ (∀ c ∈ L, namP (c.toNat : Int) = true) ∧ kwR L = [] := by
 unfold nameB
 rw [Bool.and_eq_true, Bool.and_eq_true, Bool.and_eq_true, decide_eq_true_iff, decide_eq_true_iff, List.all_eq_true]
 cases L with
 | nil => simp
 | cons c r => simp [and_assoc]
theorem nameB_first {c : UInt8} {r : List UInt8} (h : letP (c.toNat : Int) = false) : nameB (c :: r) = false := by
 cases hn : nameB (c :: r) with
 | false => rfl
 | true =>
   obtain ⟨_, ⟨a, b, e, h2⟩, _⟩ := nameB_iff.1 hn
   cases e
   rw [h] at h2; cases h2
theorem bla_not_let {r : Int} (h : blaP r = true) : letP r = false := by
 simp only [blaP, Bool.or_eq_true, decide_eq_true_iff] at h
 rcases h with ((h | h) | h) | h <;> subst h <;> decide
theorem nameB_blank {L : List UInt8} (h : 0 < spanR blaP L) : nameB L = false := by
 cases L with
 | nil => exact absurd h (by simp [spanR])
 | cons c r =>
   refine nameB_first (bla_not_let ?_)
   by_cases hb : blaP (c.toNat : Int) = true
   · exact hb
   · unfold spanR at h
     rw [List.takeWhile_cons, if_neg hb] at h
     exact absurd h (by simp)
theorem span_full {p : Int → Bool} {l : List UInt8} (h : ∀ c ∈ l, p (c.toNat : Int) = true) : spanR p l = l.length :=
 span_all p (fun _ d _ hd => h d (List.mem_of_getElem? hd))
theorem full_span {p : Int → Bool} {l : List UInt8} (h : spanR p l = l.length) : ∀ c ∈ l, p (c.toNat : Int) = true := by
 unfold spanR at h
 have h2 : l.takeWhile (fun b => p (b.toNat : Int)) = l := (List.takeWhile_sublist _).eq_of_length h
 intro c hc
 rw [← h2] at hc
 have h3 := List.all_takeWhile (p := fun b : UInt8 => p (b.toNat : Int)) (l := l)
 exact List.all_eq_true.1 h3 c hc
def WordAt (l : List UInt8) (k : Int) (S : ByteArray) (n : Nat) (er : Int) : Prop :=
 (l = [] ∧ k = 0 ∧ er = 0) ∨
 (∃ c r, l = c :: r ∧ letP (c.toNat : Int) = true ∧ n = spanR namP l ∧ 1 ≤ n ∧ n ≤ l.length ∧ er = 0 ∧ ((kwR (l.take n) ≠ [] ∧ k = 2) ∨ (kwR (l.take n) = [] ∧ k = 1 ∧ S.data.toList = l.take n))) ∨
 (∃ c r, l = c :: r ∧ letP (c.toNat : Int) = false ∧ (er = 0 → k ≠ 0 ∧ k ≠ 1 ∧ 1 ≤ n ∧ n ≤ l.length))
def LexInv (L : List UInt8) (cnt : Nat) (xs : List Value) (p : Nat) : Prop :=
 p ≤ L.length ∧ cnt ≤ p ∧ ((cnt = 0 ∧ xs = [] ∧ p = 0) ∨ (1 ≤ cnt ∧ ∃ (k : Int) (S : ByteArray) (a : Value) (rest : List Value), xs = .int .i64 k :: .string S :: a :: rest ∧
   ((k = 1 ∧ S.data.toList = L ∧ nameB L = true ∧ cnt = 1 ∧ p = L.length) ∨ (¬ (k = 1 ∧ S.data.toList = L) ∧ nameB L = false))))
def LexFin (L : List UInt8) (cnt : Nat) (xs : List Value) : Prop :=
 1 ≤ cnt ∧ ∃ (k : Int) (S : ByteArray) (a : Value) (rest : List Value), xs = .int .i64 k :: .string S :: a :: rest ∧ ((cnt = 2 ∧ k = 1 ∧ S.data.toList = L) ↔ nameB L = true)
theorem lex_start (L : List UInt8) : LexInv L 0 [] 0 := ⟨Nat.zero_le _, Nat.le_refl _, Or.inl ⟨rfl, rfl, rfl⟩⟩
theorem drop_all {L : List UInt8} {k : Nat} (h : L.drop k = []) : L.length ≤ k := List.drop_eq_nil_iff.1 h
theorem lex_end {L : List UInt8} {cnt p : Nat} {xs : List Value} (h : LexInv L cnt xs p) (hd : L.drop (p + spanR blaP (L.drop p)) = []) (S : ByteArray) (a : Value) : LexFin L (cnt + 1) (xs ++ [.int .i64 0, .string S, a]) := by
 obtain ⟨h1, h2, h | ⟨h3, k, T, b, rest, rfl, h⟩⟩ := h
 · obtain ⟨rfl, rfl, rfl⟩ := h
   refine ⟨Nat.le_refl _, 0, S, a, [], rfl, ?_⟩
   have hl := drop_all hd
   rw [List.drop_zero, Nat.zero_add] at hl
   have hn : nameB L = false := by
     by_cases h0 : L = []
     · subst h0; decide +kernel
     · exact nameB_blank (by have : 0 < L.length := List.length_pos_iff.2 h0; omega)
   rw [hn]
   simp
 · refine ⟨by omega, k, T, b, rest ++ [.int .i64 0, .string S, a], rfl, ?_⟩
   rcases h with ⟨rfl, e, hn, rfl, _⟩ | ⟨h, hn⟩
   · simp [e, hn]
   · rw [hn]
     simp only [Bool.false_eq_true, iff_false]
     rintro ⟨_, h4, h5⟩
     exact h ⟨h4, h5⟩
theorem take_first {L l : List UInt8} {n j : Nat} (hl : l = L.drop j) (hn : n ≤ l.length) (h : l.take n = L) : j = 0 ∧ n = L.length ∨ L = [] := by
 have h1 := congrArg List.length h
 rw [List.length_take, hl, List.length_drop] at h1
 rw [hl, List.length_drop] at hn
 by_cases h0 : L = []
 · exact Or.inr h0
 · have : 0 < L.length := List.length_pos_iff.2 h0
   left; omega
theorem lex_word {L : List UInt8} {cnt p : Nat} {xs : List Value} (h : LexInv L cnt xs p) (hL : L.length ≤ 12) {k : Int} {S : ByteArray} {n : Nat} (hw : WordAt (L.drop (p + spanR blaP (L.drop p))) k S n 0) (hk : k ≠ 0) (a : Value) :
   LexInv L (cnt + 1) (xs ++ [.int .i64 k, .string S, a]) (p + spanR blaP (L.drop p) + n) ∧ 1 ≤ n := by
 obtain ⟨j, hj⟩ : ∃ j, j = spanR blaP (L.drop p) := ⟨_, rfl⟩
 rw [← hj] at hw ⊢
 have hn : 1 ≤ n ∧ n ≤ (L.drop (p + j)).length := by
   rcases hw with ⟨_, e, _⟩ | ⟨c, r, e, _, _, h1, h2, _⟩ | ⟨c, r, e, _, h1⟩
   · exact absurd e hk
   · exact ⟨h1, h2⟩
   · exact (h1 rfl).2.2
 obtain ⟨hn1, hn2⟩ := hn
 rw [List.length_drop] at hn2
 refine ⟨⟨by omega, by have := h.2.1; omega, Or.inr ⟨by omega, ?_⟩⟩, hn1⟩
 obtain ⟨h1, h2, h | ⟨h3, k2, T, b, rest, rfl, h⟩⟩ := h
 · obtain ⟨rfl, rfl, rfl⟩ := h
   refine ⟨k, S, a, [], rfl, ?_⟩
   rw [List.drop_zero] at hj
   rw [Nat.zero_add] at hw ⊢
   by_cases hj0 : j = 0
   · rw [hj0, List.drop_zero] at hw
     rcases hw with ⟨_, e, _⟩ | ⟨c, r, e, h3, h4, h5, h6, _, h7⟩ | ⟨c, r, e, h3, h4⟩
     · exact absurd e hk
     · rcases h7 with ⟨h8, h9⟩ | ⟨h8, h9, h10⟩
       · refine Or.inr ⟨fun h => by rw [h9] at h; exact absurd h.1 (by decide), ?_⟩
         cases hb : nameB L with
         | false => rfl
         | true =>
           obtain ⟨_, _, g1, g2⟩ := nameB_iff.1 hb
           rw [h4, span_full g1, List.take_length] at h8
           exact absurd g2 h8
       · by_cases hS : S.data.toList = L
         · have hnL : n = L.length := by
             rcases take_first (j := 0) rfl h6 (h10.symm.trans hS) with ⟨_, h⟩ | h
             · exact h
             · rw [h] at e; cases e
           refine Or.inl ⟨h9, hS, nameB_iff.2 ⟨hL, ⟨c, r, e, h3⟩, full_span (h4.symm.trans hnL), ?_⟩, rfl, by rw [hj0]; omega⟩
           rw [hnL, List.take_length] at h8
           exact h8
         · refine Or.inr ⟨fun h => hS h.2, ?_⟩
           cases hb : nameB L with
           | false => rfl
           | true =>
             obtain ⟨_, _, g1, g2⟩ := nameB_iff.1 hb
             rw [h4, span_full g1, List.take_length] at h10
             exact absurd h10 hS
     · refine Or.inr ⟨fun h => (h4 rfl).2.1 h.1, ?_⟩
       rw [e]
       exact nameB_first h3
   · have hb : nameB L = false := nameB_blank (by omega)
     refine Or.inr ⟨fun h => ?_, hb⟩
     rcases hw with ⟨_, e, _⟩ | ⟨c, r, e, h3, h4, h5, h6, _, h7⟩ | ⟨c, r, e, h3, h4⟩
     · exact absurd e hk
     · rcases h7 with ⟨h8, h9⟩ | ⟨h8, h9, h10⟩
       · rw [h9] at h; exact absurd h.1 (by decide)
       · rcases take_first rfl h6 (h10.symm.trans h.2) with ⟨h, _⟩ | h
         · exact hj0 h
         · rw [h] at e; simp at e
     · exact (h4 rfl).2.1 h.1
 · refine ⟨k2, T, b, rest ++ [.int .i64 k, .string S, a], rfl, ?_⟩
   rcases h with ⟨_, _, _, _, h⟩ | h
   · omega
   · exact Or.inr h
theorem lex_err {L : List UInt8} {cnt p : Nat} {xs : List Value} (h : LexInv L cnt xs p) {k : Int} {S : ByteArray} {n : Nat} {er : Int} (hw : WordAt (L.drop (p + spanR blaP (L.drop p))) k S n er) (he : er ≠ 0) : nameB L = false := by
 obtain ⟨h1, h2, h | ⟨h3, k2, T, b, rest, rfl, h⟩⟩ := h
 · obtain ⟨rfl, rfl, rfl⟩ := h
   rw [List.drop_zero, Nat.zero_add] at hw
   rcases hw with ⟨_, _, e⟩ | ⟨_, _, _, _, _, _, _, e, _⟩ | ⟨c, r, e, h3, _⟩
   · exact absurd e he
   · exact absurd e he
   · by_cases hj : spanR blaP L = 0
     · rw [hj, List.drop_zero] at e
       rw [e]; exact nameB_first h3
     · exact nameB_blank (by omega)
 · rcases h with ⟨_, _, _, _, h⟩ | ⟨_, h⟩
   · rcases hw with ⟨_, _, e⟩ | ⟨_, _, _, _, _, _, _, e, _⟩ | ⟨c, r, e, h3, _⟩
     · exact absurd e he
     · exact absurd e he
     · rw [List.drop_eq_nil_of_le (by omega)] at e; cases e
   · exact h
end Go.Proofs.YtcgpflkaejbkhaaGreatDoor
namespace Go.Proofs.YtcgpflkaejbkhaaGreatDoor
open Go.RowKit

set_option maxRecDepth 100000 in
set_option maxHeartbeats 8000000 in
theorem rword_sign (s : ByteArray) (p : Nat) (w : World) (h0 : p < s.size) (hs : s.size ≤ 12) (hl : letP (s[p].toNat : Int) = false) (hd : digP (s[p].toNat : Int) = false) (hq : s[p] ≠ 39) : Calls Tryz.prog 99 #[.string s, .int .i64 (p : Int)] w (ROther s p w) := by
 have hp : ((p : Int) == (s.size : Int)) = false := by rw [beq_eq_false_iff_ne]; omega
 obtain ⟨c, hc⟩ : ∃ c, c = s[p] := ⟨_, rfl⟩
 have hkc : s[p] = c := hc.symm
 rw [hkc] at hl hd hq
 have hc255 : (c.toNat : Int) ≤ 255 := by have := c.toNat_lt; omega
 have hc0 : (0 : Int) ≤ (c.toNat : Int) := by omega
 have hc39 : ((c.toNat : Int) == 39) = false := by
   rw [beq_eq_false_iff_ne]
   intro h
   exact hq (UInt8.toNat_inj.1 (by simp; omega))
 have HK := Lib.hid (fun W => kind_any (c.toNat : Int) W)
 have h1 : (kindZ (c.toNat : Int) == 1) = false := by rw [kindZ_is1]; exact hl
 have h2 : (kindZ (c.toNat : Int) == 2) = false := by rw [kindZ_is2]; exact hd
 generalize kindZ (c.toNat : Int) = z at HK h1 h2
 have HST := Lib.hid (TwoTok.start w 6 ⟨#[]⟩ p)
 clear hl hd hq hc
 by_cases htwo : p + 1 < s.size
 · obtain ⟨T, hT⟩ : ∃ T, T = s.extract p (p + 2) := ⟨_, rfl⟩
   have hw2 : ∀ W, (Instr.slice 9 (.string s) (some (.int .i64 (p : Int))) (some (.int .i64 ((p : Int) + 2))) none).run Tryz.prog W = .ok (.string T) W := fun W => by rw [hT]; exact slice_str s _ _ p (p + 2) rfl (by omega) (by omega) (by omega) W
   have hlt : ((p : Int) + 1 < (s.size : Int)) = True := eq_true (by omega)
   have hwr : IntKind.i64.wrap ((p : Int) + 2) = (p : Int) + 2 := IntWalk.i64_in _ (by omega)
   obtain ⟨b1, hb1⟩ : ∃ b, (T.toList == [60, 62]) = b := ⟨_, rfl⟩
   obtain ⟨b2, hb2⟩ : ∃ b, (T.toList == [60, 61]) = b := ⟨_, rfl⟩
   obtain ⟨b3, hb3⟩ : ∃ b, (T.toList == [62, 61]) = b := ⟨_, rfl⟩
   clear hT
   have hor : (b1 = true ∨ (b1 = false ∧ b2 = true) ∨ (b1 = false ∧ b2 = false ∧ b3 = true)) ∨ (b1 = false ∧ b2 = false ∧ b3 = false) := by cases b1 <;> cases b2 <;> cases b3 <;> simp
   rcases hor with hor | ⟨rfl, rfl, rfl⟩
   · rcases hor with rfl | ⟨rfl, rfl⟩ | ⟨rfl, rfl, rfl⟩
     all_goals
       go_enter Tryz.func99, Tryz.ntmps99
       go_wp2_with (first
         | (go_at_call 98; (with_reducible refine (HK.out _).mono ?_); rintro e' w4 ⟨rfl, rfl⟩)
         | fail)
       exact bodyPost_ret (v := wordV 6 T p ((p + 2 : Nat) : Int) 0) (by simp [results, Tryz.results99, go_sem, wordV, tokV]) rfl ⟨6, 0, T, 2, rfl, (below1 w _).alloc (by simp) _, fun _ => ⟨by decide, by decide, by omega, by omega⟩⟩
   · go_enter Tryz.func99, Tryz.ntmps99
     go_wp2_with (first
       | (go_at_call 98; (with_reducible refine (HK.out _).mono ?_); rintro e' w4 ⟨rfl, rfl⟩)
       | fail)
     go_loopw [11] (fun i wr => ∃ (k : Nat), k ≤ 11 ∧ i = .int .i64 k ∧ Hid (TwoTok w 6 ⟨#[]⟩ p wr)) (fun i _ => 11 - (intOf i).toNat)
     case atStart => exact ⟨0, Nat.zero_le _, rfl, HST⟩
     case round =>
       obtain ⟨k, hk, rfl, HB⟩ := hrel
       obtain ⟨wo, rfl⟩ : ∃ wo : World, wo = wr := ⟨_, rfl⟩
       obtain ⟨q0, q1, q2, f0, f1, f2⟩ := HB.out.ans
       obtain ⟨r0, r1, r2, g0, g1, g2⟩ := HB.out.tok
       by_cases hlt : k < 11
       · obtain ⟨d, hd⟩ : ∃ d, d = (⟨#[40, 41, 44, 46, 61, 60, 62, 43, 45, 42, 59]⟩ : ByteArray)[k]'hlt := ⟨_, rfl⟩
         have hkd : (⟨#[40, 41, 44, 46, 61, 60, 62, 43, 45, 42, 59]⟩ : ByteArray)[k]'hlt = d := hd.symm
         have hd255 : (d.toNat : Int) ≤ 255 := by have := d.toNat_lt; omega
         have hd0 : (0 : Int) ≤ (d.toNat : Int) := by omega
         have HD := Lib.hid HB.out.drew
         clear hd
         cases he : ((d.toNat : Int) == (c.toNat : Int)) with
         | true =>
           obtain ⟨V, hV⟩ : ∃ V, V = s.extract p (p + 1) := ⟨_, rfl⟩
           have hw3 : ∀ W, (Instr.slice 9 (.string s) (some (.int .i64 (p : Int))) (some (.int .i64 ((p : Int) + 1))) none).run Tryz.prog W = .ok (.string V) W := fun W => by rw [hV]; exact slice_str s _ _ p (p + 1) rfl (by omega) (by omega) (by omega) W
           clear hV
           go_wp2_with fail
           go_region
           go_wp2_with fail
           exact bodyPost_ret (v := wordV 6 V p ((p + 1 : Nat) : Int) 0) (by simp [results, Tryz.results99, go_sem, q0, q1, q2, wordV, tokV]) rfl ⟨6, 0, V, 1, rfl, (HB.out.drew.setS V).done _ _ _, fun _ => ⟨by decide, by decide, by omega, by omega⟩⟩
         | false =>
           go_wp2_with fail
           go_region
           go_wp2_with fail
           go_roundw
           case rel => exact ⟨k + 1, by omega, by go_num, HD⟩
           case measure => simp [intOf] <;> omega
       · go_wp2_with fail
         exact bodyPost_ret (v := wordV 6 ⟨#[]⟩ p ((p + 0 : Nat) : Int) 100) (by simp [results, Tryz.results99, go_sem, q0, q1, q2, wordV, tokV]) rfl ⟨6, 100, ⟨#[]⟩, 0, rfl, HB.out.done _ _ _, fun h => absurd h (by decide)⟩
 · have hlt : ((p : Int) + 1 < (s.size : Int)) = False := eq_false (by omega)
   go_enter Tryz.func99, Tryz.ntmps99
   go_wp2_with (first
     | (go_at_call 98; (with_reducible refine (HK.out _).mono ?_); rintro e' w4 ⟨rfl, rfl⟩)
     | fail)
   go_loopw [11] (fun i wr => ∃ (k : Nat), k ≤ 11 ∧ i = .int .i64 k ∧ Hid (TwoTok w 6 ⟨#[]⟩ p wr)) (fun i _ => 11 - (intOf i).toNat)
   case atStart => exact ⟨0, Nat.zero_le _, rfl, HST⟩
   case round =>
     obtain ⟨k, hk, rfl, HB⟩ := hrel
     obtain ⟨wo, rfl⟩ : ∃ wo : World, wo = wr := ⟨_, rfl⟩
     obtain ⟨q0, q1, q2, f0, f1, f2⟩ := HB.out.ans
     obtain ⟨r0, r1, r2, g0, g1, g2⟩ := HB.out.tok
     by_cases hlt : k < 11
     · obtain ⟨d, hd⟩ : ∃ d, d = (⟨#[40, 41, 44, 46, 61, 60, 62, 43, 45, 42, 59]⟩ : ByteArray)[k]'hlt := ⟨_, rfl⟩
       have hkd : (⟨#[40, 41, 44, 46, 61, 60, 62, 43, 45, 42, 59]⟩ : ByteArray)[k]'hlt = d := hd.symm
       have hd255 : (d.toNat : Int) ≤ 255 := by have := d.toNat_lt; omega
       have hd0 : (0 : Int) ≤ (d.toNat : Int) := by omega
       have HD := Lib.hid HB.out.drew
       clear hd
       cases he : ((d.toNat : Int) == (c.toNat : Int)) with
       | true =>
         obtain ⟨V, hV⟩ : ∃ V, V = s.extract p (p + 1) := ⟨_, rfl⟩
         have hw3 : ∀ W, (Instr.slice 9 (.string s) (some (.int .i64 (p : Int))) (some (.int .i64 ((p : Int) + 1))) none).run Tryz.prog W = .ok (.string V) W := fun W => by rw [hV]; exact slice_str s _ _ p (p + 1) rfl (by omega) (by omega) (by omega) W
         clear hV
         go_wp2_with fail
         go_region
         go_wp2_with fail
         exact bodyPost_ret (v := wordV 6 V p ((p + 1 : Nat) : Int) 0) (by simp [results, Tryz.results99, go_sem, q0, q1, q2, wordV, tokV]) rfl ⟨6, 0, V, 1, rfl, (HB.out.drew.setS V).done _ _ _, fun _ => ⟨by decide, by decide, by omega, by omega⟩⟩
       | false =>
         go_wp2_with fail
         go_region
         go_wp2_with fail
         go_roundw
         case rel => exact ⟨k + 1, by omega, by go_num, HD⟩
         case measure => simp [intOf] <;> omega
     · go_wp2_with fail
       exact bodyPost_ret (v := wordV 6 ⟨#[]⟩ p ((p + 0 : Nat) : Int) 100) (by simp [results, Tryz.results99, go_sem, q0, q1, q2, wordV, tokV]) rfl ⟨6, 100, ⟨#[]⟩, 0, rfl, HB.out.done _ _ _, fun h => absurd h (by decide)⟩
end Go.Proofs.YtcgpflkaejbkhaaGreatDoor
namespace Go.Proofs.YtcgpflkaejbkhaaGreatDoor
open Go.RowKit

theorem builder_info : (Tryz.prog.info? 176).map (·.size) = some 2 := by kernel_rfl
theorem builder_lies : liesAt Tryz.prog Tryz.prog.depth 176 (2 / Tryz.prog.cellsOf 176) 0 176 1 = true := by kernel_rfl
theorem byte_info : (Tryz.prog.info? 5).map (fun i => (i.zero, i.size, i.bytes)) = some (some (.int .u8 0), 1, 1) := by kernel_rfl
theorem info_parts {P : Program} {e : TypeId} {z : Value} {s b : Nat} (h : (P.info? e).map (fun i => (i.zero, i.size, i.bytes)) = some (some z, s, b)) : ∃ i, P.info? e = some i ∧ i.zero = some z ∧ i.size = s ∧ i.bytes = b := by
 cases hi : P.info? e with
 | none => rw [hi] at h; cases h
 | some i =>
   rw [hi] at h
   simp only [Option.map_some, Option.some.injEq, Prod.mk.injEq] at h
   exact ⟨i, rfl, h.1, h.2.1, h.2.2⟩
set_option maxHeartbeats 1000000 in
set_option maxRecDepth 100000 in
theorem check_used (b : Nat) (w : World) (h0 : w.cell? ⟨b, 0, none⟩ = some (.pointer (some ⟨b, 0, none⟩))) :
   Calls Tryz.prog 137 #[.pointer (some ⟨b, 0, none⟩)] w fun e w' => e = .returned (.tuple #[]) ∧ w' = w := by
 obtain ⟨j, hj, _⟩ := Option.map_eq_some_iff.1 builder_info
 go_enter Tryz.func137, Tryz.ntmps137
 go_wp2
 rw [Lib.run_neq_ptr_same w _ Tryz.underlying174 hj]
 go_wp2
 go_end0
 exact ⟨rfl, rfl⟩
set_option maxHeartbeats 1000000 in
set_option maxRecDepth 100000 in
theorem check_fresh (b : Nat) (w : World) (h0 : w.cell? ⟨b, 0, none⟩ = some (.pointer none)) (hsh : w.shape? b = some (176, 2)) (hfz : w.frozen? ⟨b, 0, none⟩ = false) :
   Calls Tryz.prog 137 #[.pointer (some ⟨b, 0, none⟩)] w fun e w' => e = .returned (.tuple #[]) ∧ w' = w.setCell ⟨b, 0, none⟩ (.pointer (some ⟨b, 0, none⟩)) := by
 obtain ⟨j, hj, hjs⟩ := Option.map_eq_some_iff.1 builder_info
 go_enter Tryz.func137, Tryz.ntmps137
 go_wp2
 rw [Lib.run_to_unsafe w ⟨b, 0, none⟩ Tryz.underlying174 Tryz.underlying189 hj (by rw [hjs]; decide) hsh (Nat.zero_lt_succ 1)]
 simp only [Result.andThen]
 rw [Oper.upon_value]
 go_wp2
 rw [run_callFunc_extern Tryz.func146 (by kernel_rfl) (by kernel_rfl) (by kernel_rfl) (e := Extern.AbiNoEscape.same) (by kernel_rfl)]
 rw [Lib.run_noEscape]
 simp only [Result.andThen]
 rw [Oper.upon_value]
 go_wp2
 rw [Lib.run_from_unsafe w ⟨b, 0, none⟩ Tryz.underlying189 Tryz.underlying174 hj hsh builder_lies]
 simp only [Result.andThen]
 rw [Oper.upon_value]
 go_wp2
 go_end0
 exact ⟨rfl, rfl⟩
theorem check_any (B b : Nat) (bs : List Value) (w : World) (h : Lib.IsBuilderF 176 5 B b bs w) :
   Calls Tryz.prog 137 #[.pointer (some ⟨b, 0, none⟩)] w fun e w' => e = .returned (.tuple #[]) ∧ (Lib.BuilderAtF 176 5 B b (.pointer (some ⟨b, 0, none⟩)) bs w' ∧ Below B w w') := by
 rcases h with h | h
 · refine (check_fresh b w h.cell0 h.shape h.frozen0).mono ?_
   rintro e w' ⟨rfl, rfl⟩
   exact ⟨rfl, h.used _, (Below.refl B w).setCell (p := ⟨b, 0, none⟩) h.1 _⟩
 · refine (check_used b w h.cell0).mono ?_
   rintro e w' ⟨rfl, rfl⟩
   exact ⟨rfl, h, Below.refl B _⟩
set_option maxHeartbeats 2000000 in
set_option maxRecDepth 100000 in
theorem write_byte (B b : Nat) (bs : List Value) (c : Int) (w : World) (h : Lib.IsBuilderF 176 5 B b bs w) (hlen : bs.length + 1 ≤ 140737488355328) (hBw : B ≤ w.heap.size) :
   Calls Tryz.prog 126 #[.pointer (some ⟨b, 0, none⟩), .int .u8 c] w fun e w' => e = .returned .nilIface ∧ (Lib.BuilderAtF 176 5 B b (.pointer (some ⟨b, 0, none⟩)) (bs ++ [.int .u8 c]) w' ∧ Below B w w') := by
 obtain ⟨i0, hi, hz0, hz1, hz2⟩ := info_parts byte_info
 go_enter Tryz.func126, Tryz.ntmps126
 go_wp2_with (go_at_call 137; refine (check_any B b bs _ h).mono ?_)
 rintro e w1 ⟨rfl, h1, hb1⟩
 obtain ⟨hB, v, hbk, hown, hne⟩ := h1
 have c0 : w1.cell? ⟨b, 0, none⟩ = some (.pointer (some ⟨b, 0, none⟩)) := by rw [Lib.cell_of_heap hbk]; rfl
 have c1 : w1.cell? ⟨b, 1, none⟩ = some v := by rw [Lib.cell_of_heap hbk]; rfl
 go_wp2_with (at_builtin; refine wpList_append_ownF _ rfl _ _ 55 rfl B 5 i0 (.int .u8 0) 1 1 Tryz.underlying55 hi hz0 hz1 hz2 rfl (by decide) _ _ _ rfl (hown.alloc _) ⟨w1.heap.size, 0, none⟩ 1 1 [.int .u8 c] rfl rfl ?c1 ?c2 ?c3 ?c4 ?c5 ?_)
 case c1 =>
   intro j u hj
   match j, hj with
   | 0, hj => simp at hj; subst hj; simp [Addr.add]
 case c2 => intro u hu; simp at hu; subst hu; rfl
 case c3 => unfold maxLen; omega
 case c4 => omega
 case c5 => have := hb1.size; simp; omega
 intro v' w2 hown' hgrow _
 have hlt : b < w1.heap.size := by
   rcases Nat.lt_or_ge b w1.heap.size with h' | h'
   · exact h'
   · simp [Array.getElem?_eq_none h'] at hbk
 have hb2 : w2.heap[b]? = some (.cells #[.pointer (some ⟨b, 0, none⟩), v] 176 (0, 0)) := by
   rw [hgrow.block b (by simp; omega) (fun e => hne e.symm), Lib.alloc_old w1 _ b hlt]
   exact hbk
 have d0 : w2.cell? ⟨b, 0, none⟩ = some (.pointer (some ⟨b, 0, none⟩)) := by rw [Lib.cell_of_heap hb2]; rfl
 have d1 : w2.cell? ⟨b, 1, none⟩ = some v := by rw [Lib.cell_of_heap hb2]; rfl
 have f1 : w2.frozen? ⟨b, 1, none⟩ = false := Lib.frozen_of_heap hb2 1
 obtain ⟨g, cap, rfl⟩ : ∃ g cap, v' = .slice (some ⟨g, 0, none⟩) (bs.length + 1) cap := by
   rcases hown'.2 with ⟨_, h0⟩ | ⟨g, cap, cur, fz, hv, _⟩
   · omega
   · exact ⟨g, cap, hv⟩
 go_wp2
 go_ret
 refine ⟨rfl, ?_, ?_⟩
 · exact Lib.BuilderAtF.put (T := 176) (e := 5) hB hb2 (bs' := bs ++ [.int .u8 c]) (by simpa using hown') (by decide)
 · exact ((hb1.alloc (by have := hb1.size; omega) _).grown hgrow (by have := hb1.size; simp; omega) (fun k hk => (hown.lt k hk).1)).setCell (p := ⟨b, 1, none⟩) hB _
end Go.Proofs.YtcgpflkaejbkhaaGreatDoor
namespace Go.Proofs.YtcgpflkaejbkhaaGreatDoor
open Go.RowKit

def BuilL (b n : Nat) (w1 W : World) : Prop := ∃ l : List UInt8, l.length ≤ n ∧ Lib.IsBuilderF 176 5 b b (Lib.byteCells l) W ∧ Below b w1 W
theorem BuilL.write {b n : Nat} {w1 W : World} (h : BuilL b n w1 W) (hn : n ≤ 200) (hb : b ≤ w1.heap.size) (c : UInt8) : Calls Tryz.prog 126 #[.pointer (some ⟨b, 0, none⟩), .int .u8 (c.toNat : Int)] W fun e w' => e = .returned .nilIface ∧ BuilL b (n + 1) w1 w' := by
 obtain ⟨l, h1, h2, h3⟩ := h
 refine (write_byte b b (Lib.byteCells l) (c.toNat : Int) W h2 (by rw [Lib.byteCells_length]; omega) (by have := h3.size; omega)).mono ?_
 rintro e w' ⟨rfl, h4, h5⟩
 refine ⟨rfl, l ++ [c], by rw [List.length_append]; simp; omega, Or.inr ?_, h3.trans h5⟩
 rw [show Lib.byteCells (l ++ [c]) = Lib.byteCells l ++ [.int .u8 (c.toNat : Int)] by simp [Lib.byteCells]]
 exact h4
theorem BuilL.text {b n : Nat} {w1 W : World} (h : BuilL b n w1 W) (hb : b ≤ w1.heap.size) : ∃ S : ByteArray, Calls Tryz.prog 125 #[.pointer (some ⟨b, 0, none⟩)] W fun e w' => e = .returned (.string S) ∧ Below b w1 w' := by
 obtain ⟨l, h1, h2, h3⟩ := h
 refine ⟨⟨l.toArray⟩, (Tryz.Builder_String_any_k b b l W h2 (by have := h3.size; omega)).mono ?_⟩
 rintro e w' ⟨rfl, _, h5, _⟩
 exact ⟨rfl, h3.trans h5⟩
theorem BuilL.start (w1 : World) : BuilL w1.heap.size 0 w1 (w1.alloc (.cells #[.pointer none, .slice none 0 0] 176)) :=
 ⟨[], Nat.le_refl _, Or.inl ⟨Nat.le_refl _, .slice none 0 0, heap_alloc_new w1 _, ⟨by simp [Lib.byteCells], Or.inl ⟨rfl, rfl⟩⟩, by simp [Value.ownBlock]⟩, (Below.refl _ _).alloc (Nat.le_refl _) _⟩
theorem BuilL.le {b n m : Nat} {w1 W : World} (h : BuilL b n w1 W) (hm : n ≤ m) : BuilL b m w1 W := by
 obtain ⟨l, h1, h2, h3⟩ := h
 exact ⟨l, Nat.le_trans h1 hm, h2, h3⟩
theorem cells_of {W : World} {g : Nat} (h : W.heap[g]? = some (.cells #[.int .i64 0, .string ⟨#[]⟩, .int .i64 0] 102)) : W.cell? ⟨g, 0, none⟩ = some (.int .i64 0) ∧ W.cell? ⟨g, 1, none⟩ = some (.string ⟨#[]⟩) ∧ W.cell? ⟨g, 2, none⟩ = some (.int .i64 0) ∧ W.frozen? ⟨g, 0, none⟩ = false ∧ W.frozen? ⟨g, 1, none⟩ = false ∧ W.frozen? ⟨g, 2, none⟩ = false :=
 ⟨cell_of_row _ _ 0 _ _ _ h, cell_of_row _ _ 1 _ _ _ h, cell_of_row _ _ 2 _ _ _ h, frozen_of_row _ _ 0 _ _ h, frozen_of_row _ _ 1 _ _ h, frozen_of_row _ _ 2 _ _ h⟩
theorem tok_kept {w W : World} (hB : Below (w.heap.size + 1) (w.alloc (.cells #[.int .i64 0, .string ⟨#[]⟩, .int .i64 0] 102)) W) : W.heap[w.heap.size]? = some (.cells #[.int .i64 0, .string ⟨#[]⟩, .int .i64 0] 102) ∧ Below w.heap.size w W :=
 ⟨(hB.block w.heap.size (by omega)).trans (heap_alloc_new w _), (below1 w _).trans (hB.mono (by omega))⟩
set_option maxRecDepth 100000 in
set_option maxHeartbeats 8000000 in
theorem text_any (s : ByteArray) (w : World) (h0 : 0 < s.size) (hs : s.size ≤ 12) : Calls Tryz.prog 112 #[.string s] w (OtherP s w) := by
 have HST := Lib.hid (show BuilL (w.heap.size + 1) 1 (w.alloc (.cells #[.int .i64 0, .string ⟨#[]⟩, .int .i64 0] 102)) ((w.alloc (.cells #[.int .i64 0, .string ⟨#[]⟩, .int .i64 0] 102)).alloc (.cells #[.pointer none, .slice none 0 0] 176)) from by
   have h := BuilL.start (w.alloc (.cells #[.int .i64 0, .string ⟨#[]⟩, .int .i64 0] 102))
   rw [World.size_alloc] at h
   exact h.le (Nat.zero_le _))
 have HS := Lib.hid hs
 have H0 := Lib.hid h0
 go_enter Tryz.func112, Tryz.ntmps112
 go_wp2_with fail
 go_loopw [6] (fun i wr => ∃ k : Nat, 1 ≤ k ∧ k ≤ s.size ∧ i = .int .i64 k ∧ Hid (BuilL (w.heap.size + 1) k (w.alloc (.cells #[.int .i64 0, .string ⟨#[]⟩, .int .i64 0] 102)) wr)) (fun i _ => s.size + 1 - (intOf i).toNat)
 case atStart => exact ⟨1, Nat.le_refl _, H0.out, rfl, HST⟩
 case round =>
   obtain ⟨k, hk1, hk, rfl, HB⟩ := hrel
   obtain ⟨wo, rfl⟩ : ∃ wo : World, wo = wr := ⟨_, rfl⟩
   by_cases hlt : k < s.size
   · obtain ⟨c, hc⟩ : ∃ c, c = s[k] := ⟨_, rfl⟩
     have hkc : s[k] = c := hc.symm
     have hc255 : (c.toNat : Int) ≤ 255 := by have := c.toNat_lt; omega
     have hc0 : (0 : Int) ≤ (c.toNat : Int) := by omega
     clear hc
     by_cases h39 : c = 39
     · subst h39
       have hcn : (((39 : UInt8).toNat : Nat) : Int) = 39 := rfl
       by_cases hend : k + 1 = s.size
       · obtain ⟨S, hS⟩ := HB.out.text (by simp)
         have HT := Lib.hid hS
         clear hS
         have hq : ((k : Int) + 1 == (s.size : Int)) = true := by rw [beq_iff_eq]; omega
         go_wp2_with (first
           | (go_at_call 125; (with_reducible refine HT.out.mono ?_); rintro e w4 ⟨rfl, hB4⟩; have HK4 := Lib.hid (tok_kept hB4); obtain ⟨r0, r1, r2, g0, g1, g2⟩ := cells_of HK4.out.1; clear hB4)
           | fail)
         refine bodyPost_ret (v := nextV 5 S (k + 1 : Nat) 0) (by simp [results, Tryz.results112, go_sem, r0, r1, r2, nextV, tokV]) rfl ⟨5, 0, S, k + 1, rfl, ?_, fun _ => ⟨by decide, by decide, by omega, by omega⟩⟩
         exact ((HK4.out.2.setCell (p := ⟨w.heap.size, 0, none⟩) (Nat.le_refl _) _).setCell (p := ⟨w.heap.size, 1, none⟩) (Nat.le_refl _) _).setCell (p := ⟨w.heap.size, 2, none⟩) (Nat.le_refl _) _
       · have hlt1 : k + 1 < s.size := by omega
         have hq : ((k : Int) + 1 == (s.size : Int)) = false := by rw [beq_eq_false_iff_ne]; omega
         obtain ⟨d, hd⟩ : ∃ d, d = s[k + 1] := ⟨_, rfl⟩
         have hkd : s[k + 1] = d := hd.symm
         have hd255 : (d.toNat : Int) ≤ 255 := by have := d.toNat_lt; omega
         have hd0 : (0 : Int) ≤ (d.toNat : Int) := by omega
         clear hd hend
         by_cases hd39 : d = 39
         · subst hd39
           have HW := Lib.hid (show Calls Tryz.prog 126 #[.pointer (some ⟨w.heap.size + 1, 0, none⟩), .int .u8 39] wo _ from HB.out.write (by have := HS.out; omega) (by simp) 39)
           go_wp2_with (first
             | (go_at_call 126; (with_reducible refine HW.out.mono ?_); rintro e w4 ⟨rfl, hB4⟩; have HB4 := Lib.hid (hB4.le (Nat.le_succ _)); clear hB4)
             | fail)
           go_roundw
           case rel => exact ⟨k + 2, by omega, by omega, by go_num, HB4⟩
           case measure => simp [intOf] <;> omega
         · have hdn : ((d.toNat : Int) == 39) = false := by
             rw [beq_eq_false_iff_ne]
             intro h
             exact hd39 (UInt8.toNat_inj.1 (by simp; omega))
           obtain ⟨S, hS⟩ := HB.out.text (by simp)
           have HT := Lib.hid hS
           clear hS hd39
           go_wp2_with (first
             | (go_at_call 125; (with_reducible refine HT.out.mono ?_); rintro e w4 ⟨rfl, hB4⟩; have HK4 := Lib.hid (tok_kept hB4); obtain ⟨r0, r1, r2, g0, g1, g2⟩ := cells_of HK4.out.1; clear hB4)
             | fail)
           refine bodyPost_ret (v := nextV 5 S (k + 1 : Nat) 0) (by simp [results, Tryz.results112, go_sem, r0, r1, r2, nextV, tokV]) rfl ⟨5, 0, S, k + 1, rfl, ?_, fun _ => ⟨by decide, by decide, by omega, by omega⟩⟩
           exact ((HK4.out.2.setCell (p := ⟨w.heap.size, 0, none⟩) (Nat.le_refl _) _).setCell (p := ⟨w.heap.size, 1, none⟩) (Nat.le_refl _) _).setCell (p := ⟨w.heap.size, 2, none⟩) (Nat.le_refl _) _
     · have hcn : ((c.toNat : Int) == 39) = false := by
         rw [beq_eq_false_iff_ne]
         intro h
         exact h39 (UInt8.toNat_inj.1 (by simp; omega))
       have HW := Lib.hid (HB.out.write (by have := HS.out; omega) (by simp) c)
       clear h39
       go_wp2_with (first
         | (go_at_call 126; (with_reducible refine HW.out.mono ?_); rintro e w4 ⟨rfl, hB4⟩; have HB4 := Lib.hid hB4; clear hB4)
         | fail)
       go_roundw
       case rel => exact ⟨k + 1, by omega, by omega, by go_num, HB4⟩
       case measure => simp [intOf] <;> omega
   · have HK4 := Lib.hid (show wo.heap[w.heap.size]? = some (.cells #[.int .i64 0, .string ⟨#[]⟩, .int .i64 0] 102) ∧ Below w.heap.size w wo from by
       obtain ⟨l, _, _, h3⟩ := HB.out
       exact tok_kept h3)
     obtain ⟨r0, r1, r2, g0, g1, g2⟩ := cells_of HK4.out.1
     go_wp2_with fail
     refine bodyPost_ret (v := nextV 0 ⟨#[]⟩ 0 10) (by simp [results, Tryz.results112, go_sem, r0, r1, r2, nextV, tokV]) rfl ⟨0, 10, ⟨#[]⟩, 0, rfl, ?_, fun h => absurd h (by decide)⟩
     exact ((HK4.out.2.setCell (p := ⟨w.heap.size, 0, none⟩) (Nat.le_refl _) _).setCell (p := ⟨w.heap.size, 1, none⟩) (Nat.le_refl _) _).setCell (p := ⟨w.heap.size, 2, none⟩) (Nat.le_refl _) _
end Go.Proofs.YtcgpflkaejbkhaaGreatDoor
namespace Go.Proofs.YtcgpflkaejbkhaaGreatDoor
open Go.RowKit

structure Glob (m : Int) (t : Nat → Nat) (W : World) : Prop where
 mx : W.cell? ⟨0, 0, none⟩ = some (.int .i64 m)
 opt : W.cell? ⟨4, 0, none⟩ = some (.bool true)
 bits : W.cell? ⟨5, 0, none⟩ = some (.int .u64 52)
 tab : ∃ a c, W.cell? ⟨8, 0, none⟩ = some (.slice (some a) 23 c) ∧ ∀ j, j < 23 → W.cell? (a.add j) = some (.float .f64 (t j))
theorem Glob.keep {m : Int} {t : Nat → Nat} {W w2 : World} (h : Glob m t W) (hB : Below W.heap.size W w2) : Glob m t w2 := by
 obtain ⟨h1, h2, h3, a, c, h4, h5⟩ := h
 refine ⟨cell_kept h1 hB, cell_kept h2 hB, cell_kept h3 hB, a, c, cell_kept h4 hB, fun j hj => ?_⟩
 exact (hB.cell (World.block_lt_of_cell? W _ (h5 j hj))).trans (h5 j hj)
def finD : Ieee.Datum → Bool
 | .number _ n _ => n != 0
 | _ => false
theorem read_le {x : Nat} (h : x ≤ Ieee.double.infRung) : (Ieee.double.read x).isNaN = false := by
 have h1 : Ieee.double.infRung = 9218868437227405312 := by decide
 have h2 : Ieee.double.signWeight = 9223372036854775808 := by decide
 have h3 : x % Ieee.double.signWeight = x := Nat.mod_eq_of_lt (by omega)
 unfold Ieee.Format.read
 simp only [h3]
 split
 · rfl
 · split
   · rfl
   · split
     · rfl
     · omega
theorem nearest_le (f : Ieee.Format) (m : Nat) (p : Int) : f.nearest false m p ≤ f.infRung := by
 unfold Ieee.Format.nearest
 split
 · exact Nat.zero_le _
 · exact Nat.min_le_right _ _
theorem nearest_of (f : Ieee.Format) (M : Nat) : f.write (.number (decide ((M : Int) < 0)) (M : Int).natAbs 0) ≤ f.infRung := by
 rw [show decide ((M : Int) < 0) = false from decide_eq_false (by omega)]
 exact nearest_le f _ _
theorem quot_some {x y : Nat} (hx : (Ieee.double.read x).isNaN = false) (hy : finD (Ieee.double.read y) = true) : ∃ r, floatBits .quo .f64 x y = some r := by
 show ∃ r, Ieee.double.div x y = some r
 unfold Ieee.Format.div
 cases hb : Ieee.double.read y with
 | nan s f => rw [hb] at hy; cases hy
 | infinity s => rw [hb] at hy; cases hy
 | number s n p =>
   rw [hb] at hy
   have hn : n ≠ 0 := by simpa [finD] using hy
   cases ha : Ieee.double.read x with
   | nan s f => rw [ha] at hx; cases hx
   | infinity s2 => exact ⟨_, rfl⟩
   | number s2 m q =>
     unfold Ieee.Datum.quotient
     simp only [if_neg hn]
     exact ⟨_, rfl⟩
theorem ofInt_some (M : Nat) : (Ieee.double.read (floatOfInt .f64 (M : Int))).isNaN = false := by
 exact read_le (nearest_of Ieee.double M)
set_option maxRecDepth 100000 in
set_option maxHeartbeats 4000000 in
theorem exact_any (m : Int) (t : Nat → Nat) (ht : ∀ j, j < 23 → finD (Ieee.double.read (t j)) = true) (M e : Nat) (hM : M < 4503599627370496) (he : e ≤ 22) : ∃ f, ∀ W, Glob m t W → Calls Tryz.prog 167 #[.int .u64 (M : Int), .int .i64 (-(e : Int)), .bool false] W (RetV (.tuple #[.float .f64 f, .bool true]) W) := by
 obtain ⟨g, hg, hgn⟩ : ∃ g, (∀ W, (convert 124 169 (.int .u64 (M : Int))).run Tryz.prog W = .ok (.float .f64 g) W) ∧ (Ieee.double.read g).isNaN = false := ⟨_, fun W => run_convert_int_float W 124 169 .u64 .f64 _ (by rw [Tryz.underlying124]; rfl) Tryz.underlying169, ofInt_some M⟩
 obtain ⟨q, hq0⟩ := quot_some hgn (ht e (by omega))
 have hq : ∀ W, (binOp .quo 169 (.float .f64 g) (.float .f64 (t e))).run Tryz.prog W = .ok (.float .f64 q) W := fun W => run_float_arith W .quo 169 .f64 g (t e) _ hq0
 have hsh : ∀ W, (binOp .shr 116 (.int .u64 (M : Int)) (.int .u64 52)).run Tryz.prog W = .ok (.int .u64 0) W := by
   intro W
   have h : ((M : Int).fdiv (2 ^ min 52 IntKind.u64.bits)) = 0 := by
     rw [show min 52 IntKind.u64.bits = 52 from rfl, Int.fdiv_eq_ediv_of_nonneg _ (by decide)]
     exact Int.ediv_eq_zero_of_lt (by omega) (by omega)
   simp [binOp, Op.shift, h]
 by_cases h0 : e = 0
 · subst h0
   refine ⟨g, fun W hG => ?_⟩
   have hbits := hG.bits
   go_enter Tryz.func167, Tryz.ntmps167
   go_wp2_with fail
   exact bodyPost_ret (v := .tuple #[.float .f64 g, .bool true]) (by simp [results, Tryz.results167, go_sem]) rfl ⟨rfl, Below.refl _ _⟩
 · refine ⟨q, fun W hG => ?_⟩
   have hbits := hG.bits
   obtain ⟨a, c, htab, hcell⟩ := hG.tab
   have hce := hcell e (by omega)
   have h1 : ((0 : Int) < -(e : Int)) = False := eq_false (by omega)
   have h2 : (-(e : Int) == 0) = false := by rw [beq_eq_false_iff_ne]; omega
   have h3 : (-(e : Int) < 0) = True := eq_true (by omega)
   have h4 : ((-22 : Int) ≤ -(e : Int)) = True := eq_true (by omega)
   go_enter Tryz.func167, Tryz.ntmps167
   go_wp2_with fail
   exact bodyPost_ret (v := .tuple #[.float .f64 q, .bool true]) (by simp [results, Tryz.results167, go_sem]) rfl ⟨rfl, Below.refl _ _⟩
end Go.Proofs.YtcgpflkaejbkhaaGreatDoor
namespace Go.Proofs.YtcgpflkaejbkhaaGreatDoor
open Go.RowKit

theorem digP_iff {r : Int} : digP r = true ↔ 48 ≤ r ∧ r ≤ 57 := by simp [digP]
set_option maxRecDepth 100000 in
set_option maxHeartbeats 4000000 in
theorem special_any (s : ByteArray) (w : World) (h0 : 0 < s.size) (hd : digP (s[0].toNat : Int) = true) : Calls Tryz.prog 156 #[.string s] w (RetV (.tuple #[.float .f64 0, .int .i64 0, .bool false]) w) := by
 obtain ⟨c, hc⟩ : ∃ c, c = s[0] := ⟨_, rfl⟩
 have hkc : s[0] = c := hc.symm
 rw [hkc] at hd
 obtain ⟨d1, d2⟩ := digP_iff.1 hd
 have h43 : ((c.toNat : Int) == 43) = false := by rw [beq_eq_false_iff_ne]; omega
 have h45 : ((c.toNat : Int) == 45) = false := by rw [beq_eq_false_iff_ne]; omega
 have h105 : ((c.toNat : Int) == 105) = false := by rw [beq_eq_false_iff_ne]; omega
 have h73 : ((c.toNat : Int) == 73) = false := by rw [beq_eq_false_iff_ne]; omega
 have h110 : ((c.toNat : Int) == 110) = false := by rw [beq_eq_false_iff_ne]; omega
 have h78 : ((c.toNat : Int) == 78) = false := by rw [beq_eq_false_iff_ne]; omega
 have hs0 : ((s.size : Int) == 0) = false := by rw [beq_eq_false_iff_ne]; omega
 have hc255 : (c.toNat : Int) ≤ 255 := by have := c.toNat_lt; omega
 have hc0 : (0 : Int) ≤ (c.toNat : Int) := by omega
 clear hc hd d1 d2
 go_enter Tryz.func156, Tryz.ntmps156
 go_wp2_with fail
 exact bodyPost_ret (v := .tuple #[.float .f64 0, .int .i64 0, .bool false]) (by simp [results, Tryz.results156, go_sem]) rfl ⟨rfl, Below.refl _ _⟩
theorem bool2_any (w : World) : Calls Tryz.prog 165 #[.bool false] w (RetV (.int .u64 0) w) := by
 go_enter Tryz.func165, Tryz.ntmps165
 go_wp2_with fail
 go_ret
 exact ⟨rfl, Below.refl _ _⟩
end Go.Proofs.YtcgpflkaejbkhaaGreatDoor
namespace Go.Proofs.YtcgpflkaejbkhaaGreatDoor
open Go.RowKit

structure DecT (s : ByteArray) (p : Nat) : Prop where
 short : s.size ≤ 12
 pos : 1 ≤ p
 more : p + 1 < s.size
 dot : s.data.toList[p]? = some 46
 digs : ∀ j c, j ≠ p → s.data.toList[j]? = some c → digP (c.toNat : Int) = true
structure RF where
 M : Nat
 nd : Nat
 dp : Int
def rfStep (st : RF) (c : UInt8) : RF :=
 if c = 46 then ⟨st.M, st.nd, st.nd⟩ else if c = 48 ∧ st.nd = 0 then ⟨st.M, st.nd, st.dp - 1⟩ else ⟨st.M * 10 + (c.toNat - 48), st.nd + 1, st.dp⟩
def rfAt (l : List UInt8) (k : Nat) : RF := (l.take k).foldl rfStep ⟨0, 0, 0⟩
theorem rfAt_succ {l : List UInt8} {k : Nat} {c : UInt8} (h : l[k]? = some c) : rfAt l (k + 1) = rfStep (rfAt l k) c := by
 unfold rfAt
 rw [List.take_add_one, h, List.foldl_append]
 rfl
structure RFok (p k : Nat) (st : RF) : Prop where
 m : st.M < 10 ^ k
 n : st.nd ≤ k
 d : (st.nd : Int) - st.dp ≤ k
 d0 : -(k : Int) ≤ st.dp
 d1 : st.dp ≤ st.nd
theorem rf_ok {s : ByteArray} {p : Nat} (h : DecT s p) : ∀ k, k ≤ s.size → RFok p k (rfAt s.data.toList k) := by
 have hsl : s.data.toList.length = s.size := by show _ = s.data.size; simp
 intro k
 induction k with
 | zero => intro _; exact ⟨by simp [rfAt], by simp [rfAt], by simp [rfAt], by simp [rfAt], by simp [rfAt]⟩
 | succ k ih =>
   intro hk
   obtain ⟨i1, i2, i3, i4, i5⟩ := ih (by omega)
   obtain ⟨c, hc⟩ : ∃ c, s.data.toList[k]? = some c := ⟨_, List.getElem?_eq_getElem (by omega)⟩
   rw [rfAt_succ hc]
   have hp : 10 ^ (k + 1) = 10 ^ k * 10 := Nat.pow_succ ..
   unfold rfStep
   split
   · refine ⟨?_, ?_, ?_, ?_, ?_⟩ <;> dsimp only <;> omega
   · split
     · refine ⟨?_, ?_, ?_, ?_, ?_⟩ <;> dsimp only <;> omega
     · rename_i h46 _
       have hd : digP (c.toNat : Int) = true := by
         by_cases e : k = p
         · subst e; rw [h.dot] at hc; cases hc; exact absurd rfl h46
         · exact h.digs k c e hc
       have hd2 := digP_iff.1 hd
       refine ⟨?_, ?_, ?_, ?_, ?_⟩ <;> dsimp only <;> omega
theorem low_ne : ∀ n : Fin 58, (bits .or .u8 ((n.val : Nat) : Int) 32 == 120) = false := by decide +kernel
end Go.Proofs.YtcgpflkaejbkhaaGreatDoor
namespace Go.Proofs.YtcgpflkaejbkhaaGreatDoor
open Go.RowKit

set_option maxRecDepth 100000 in
set_option maxHeartbeats 16000000 in
theorem read_any (s : ByteArray) (p : Nat) (h : DecT s p) (w : World) (F : RF) (hF : F = rfAt s.data.toList s.size) :
   Calls Tryz.prog 157 #[.string s] w (RetV (.tuple #[.int .u64 F.M, .int .i64 (if F.M = 0 then 0 else F.dp - F.nd), .bool false, .bool false, .bool false, .int .i64 s.size, .bool true]) w) := by
 have hsl : s.data.toList.length = s.size := by show _ = s.data.size; simp
 have hp1 := h.pos
 have hp2 := h.more
 have hsz := h.short
 have HF := Lib.hid hF
 obtain ⟨E, hE⟩ : ∃ E : Int, E = if F.M = 0 then 0 else F.dp - F.nd := ⟨_, rfl⟩
 have HE := Lib.hid hE
 rw [← hE]
 clear hE hF
 have HOK := Lib.hid (rf_ok h)
 have HGET := Lib.hid (show ∀ j (hj : j < s.size), s.data.toList[j]? = some s[j] from fun j hj => by
   rw [Array.getElem?_toList]; exact Array.getElem?_eq_getElem hj)
 obtain ⟨c, hc⟩ : ∃ c, c = s[0] := ⟨_, rfl⟩
 have hkc : s[0] = c := hc.symm
 obtain ⟨c1, hc1⟩ : ∃ c, c = s[1] := ⟨_, rfl⟩
 have hkc1 : s[1] = c1 := hc1.symm
 have hd0 := digP_iff.1 (h.digs 0 c (by omega) (by rw [hc]; exact HGET.out 0 (by omega)))
 have h43 : ((c.toNat : Int) == 43) = false := by rw [beq_eq_false_iff_ne]; omega
 have h45 : ((c.toNat : Int) == 45) = false := by rw [beq_eq_false_iff_ne]; omega
 have hc1l : c1.toNat ≤ 57 := by
   by_cases e : 1 = p
   · have := h.dot
     rw [← e, HGET.out 1 (by omega), ← hc1] at this
     cases this; decide
   · have := digP_iff.1 (h.digs 1 c1 e (by rw [hc1]; exact HGET.out 1 (by omega)))
     omega
 obtain ⟨x, hx⟩ : ∃ x, x = bits .or .u8 (c1.toNat : Int) 32 := ⟨_, rfl⟩
 have HLW := Lib.hid (show ∀ W, Calls Tryz.prog 173 #[.int .u8 (c1.toNat : Int)] W (SameV (.int .u8 x) W) from fun W => (Tryz.internal_strconv_lower _ W).mono (fun e w' h => ⟨by rw [hx]; exact h.1, h.2.symm⟩))
 have hx120 : (x == 120) = false := by rw [hx]; exact low_ne ⟨c1.toNat, by omega⟩
 have h0lt : 0 < s.size := by omega
 have h1lt : 1 < s.size := by omega
 have h2lt : ((2 : Int) < (s.size : Int)) = True := eq_true (by omega)
 have hc255 : (c.toNat : Int) ≤ 255 := by have := c.toNat_lt; omega
 have hc0 : (0 : Int) ≤ (c.toNat : Int) := by omega
 have hse : (s = ByteArray.empty) = False := eq_false (fun e => by rw [e] at h0lt; exact absurd h0lt (by decide))
 have HD := Lib.hid h
 clear hx hc hc1 hd0 hc1l h
 have h48 : ((c.toNat : Int) == 48) = true ∨ ((c.toNat : Int) == 48) = false := by cases ((c.toNat : Int) == 48) <;> simp
 rcases h48 with h48 | h48
 all_goals
   go_enter Tryz.func157, Tryz.ntmps157
   go_wp2_with fail
   go_step3
   go_wp2_with (first
     | (go_at_call 173; (with_reducible refine (HLW.out _).mono ?_); rintro e w2 ⟨rfl, rfl⟩)
     | fail)
   go_step3
   go_wp2_with fail
   go_loopw [2, 5, 7, 9, 13, 14, 15, 16, 17] (fun m tr i us sd sg n nm q wr => wr = w ∧ tr = .bool false ∧ us = .bool false ∧ ∃ (k M nd : Nat) (dp : Int) (d b : Bool), k ≤ s.size ∧ Hid (rfAt s.data.toList k = ⟨M, nd, dp⟩) ∧ Hid (d = decide (p < k)) ∧ Hid (0 < k → b = true) ∧ m = .int .u64 M ∧ i = .int .i64 k ∧ sd = .bool d ∧ sg = .bool b ∧ n = .int .i64 nd ∧ nm = .int .i64 nd ∧ q = .int .i64 dp) (fun _ _ i _ _ _ _ _ _ _ => s.size - (intOf i).toNat)
   case atStart => exact ⟨rfl, rfl, rfl, 0, 0, 0, 0, false, false, by omega, Lib.hid rfl, Lib.hid (by simp), Lib.hid (fun h => absurd h (by omega)), rfl, rfl, rfl, rfl, rfl, rfl, rfl⟩
   case round =>
     obtain ⟨rfl, rfl, rfl, k, M, nd, dp, d, b, hk, HS, HDD, HBB, rfl, rfl, rfl, rfl, rfl, rfl, rfl⟩ := hrel
     have hok := HOK.out k hk
     rw [HS.out] at hok
     obtain ⟨o1, o2, o3, o4, o5⟩ := hok
     dsimp only at o1 o2 o3 o4 o5
     have hpow : (10 : Nat) ^ k ≤ 1000000000000 := Nat.le_trans (Nat.pow_le_pow_right (by decide) (show k ≤ 12 by omega)) (by decide)
     have oM : (M : Int) < 1000000000000 := by omega
     have oM0 : (0 : Int) ≤ (M : Int) := by omega
     clear o1 hpow
     by_cases hlt : k < s.size
     · obtain ⟨a, ha⟩ : ∃ a, a = s[k] := ⟨_, rfl⟩
       have hka : s[k] = a := ha.symm
       have HA := Lib.hid (show s.data.toList[k]? = some a by rw [ha]; exact HGET.out k hlt)
       have ha255 : (a.toNat : Int) ≤ 255 := by have := a.toNat_lt; omega
       have ha0 : (0 : Int) ≤ (a.toNat : Int) := by omega
       have HSS := Lib.hid (rfAt_succ HA.out)
       rw [HS.out] at HSS
       clear ha
       by_cases hkp : k = p
       · subst hkp
         obtain rfl : a = 46 := by have h := HD.out.dot; rw [HA.out] at h; exact Option.some.inj h
         obtain rfl : d = false := by rw [HDD.out]; simp
         have han : (((46 : UInt8).toNat : Nat) : Int) = 46 := rfl
         go_wp2_with fail
         go_roundw
         case rel => exact ⟨trivial, rfl, rfl, k + 1, M, nd, (nd : Int), true, b, by omega, Lib.hid (by rw [HSS.out]; simp [rfStep]), Lib.hid (by simp), Lib.hid (fun _ => HBB.out (by omega)), rfl, by go_num, rfl, rfl, rfl, rfl, rfl⟩
         case measure => simp [intOf] <;> omega
       · have hdg := digP_iff.1 (HD.out.digs k a hkp HA.out)
         obtain ⟨hg1, hg2⟩ := hdg
         have h95 : ((a.toNat : Int) == 95) = false := by rw [beq_eq_false_iff_ne]; omega
         have h46 : ((a.toNat : Int) == 46) = false := by rw [beq_eq_false_iff_ne]; omega
         have HD2 := Lib.hid (show d = decide (p < k + 1) by rw [HDD.out]; congr 1; exact propext ⟨fun h => by omega, fun h => by omega⟩)
         by_cases hz : a = 48 ∧ nd = 0
         · obtain ⟨rfl, rfl⟩ := hz
           have han : (((48 : UInt8).toNat : Nat) : Int) = 48 := rfl
           go_wp2_with fail
           go_roundw
           case rel => exact ⟨trivial, rfl, rfl, k + 1, M, 0, dp - 1, d, true, by omega, Lib.hid (by rw [HSS.out]; simp [rfStep]), HD2, Lib.hid (fun _ => rfl), rfl, by go_num, rfl, rfl, rfl, rfl, by go_num⟩
           case measure => simp [intOf] <;> omega
         · have hzz : ((a.toNat : Int) == 48) = false ∨ (((a.toNat : Int) == 48) = true ∧ ((nd : Int) == 0) = false) := by
             by_cases e : a = 48
             · right
               refine ⟨by rw [e]; rfl, ?_⟩
               rw [beq_eq_false_iff_ne]
               intro h
               exact hz ⟨e, by omega⟩
             · left
               rw [beq_eq_false_iff_ne]
               intro h
               exact e (UInt8.toNat_inj.1 (by simp; omega))
           obtain ⟨M2, hM2, hM3⟩ : ∃ M2 : Nat, M2 = M * 10 + (a.toNat - 48) ∧ (M2 : Int) = (M : Int) * 10 + ((a.toNat : Int) - 48) := ⟨_, rfl, by omega⟩
           have HS2 := Lib.hid (show rfAt s.data.toList (k + 1) = ⟨M2, nd + 1, dp⟩ by
             rw [HSS.out]
             unfold rfStep
             rw [if_neg (by intro e; rw [e] at h46; exact absurd h46 (by decide)), if_neg hz, hM2])
           have h19 : ((nd : Int) < 19) = True := eq_true (by omega)
           clear hz hM2
           rcases hzz with hz1 | ⟨hz1, hz2⟩
           · go_wp2_with fail
             go_roundw
             case rel => exact ⟨trivial, rfl, rfl, k + 1, M2, nd + 1, dp, d, true, by omega, HS2, HD2, Lib.hid (fun _ => rfl), by go_num, by go_num, rfl, rfl, by go_num, by go_num, rfl⟩
             case measure => simp [intOf] <;> omega
           · go_wp2_with fail
             go_roundw
             case rel => exact ⟨trivial, rfl, rfl, k + 1, M2, nd + 1, dp, d, true, by omega, HS2, HD2, Lib.hid (fun _ => rfl), by go_num, by go_num, rfl, rfl, by go_num, by go_num, rfl⟩
             case measure => simp [intOf] <;> omega
     · obtain rfl : k = s.size := by omega
       obtain rfl : d = true := by rw [HDD.out]; simp; omega
       obtain rfl : b = true := HBB.out (by omega)
       have hF := HF.out
       rw [HS.out] at hF
       subst hF
       by_cases hM : M = 0
       · subst hM
         obtain rfl : E = 0 := by have h := HE.out; rw [if_pos rfl] at h; exact h
         go_wp2_with fail
         exact bodyPost_ret (v := .tuple #[.int .u64 0, .int .i64 0, .bool false, .bool false, .bool false, .int .i64 s.size, .bool true]) (by simp [results, Tryz.results157, go_sem]) rfl ⟨rfl, Below.refl _ _⟩
       · have hM0 : ((M : Int) != 0) = true := by rw [bne_iff_ne]; omega
         have hE : dp - (nd : Int) = E := by have h := HE.out; rw [if_neg hM] at h; exact h.symm
         have hE1 : (-12 : Int) ≤ dp - (nd : Int) := by omega
         have hE2 : dp - (nd : Int) ≤ 0 := by omega
         clear hM HE HF HS HDD HBB HOK HD o3 o4 o5
         go_wp2_with fail
         exact bodyPost_ret (v := .tuple #[.int .u64 M, .int .i64 E, .bool false, .bool false, .bool false, .int .i64 s.size, .bool true]) (by simp [results, Tryz.results157, go_sem]) rfl ⟨rfl, Below.refl _ _⟩
end Go.Proofs.YtcgpflkaejbkhaaGreatDoor
