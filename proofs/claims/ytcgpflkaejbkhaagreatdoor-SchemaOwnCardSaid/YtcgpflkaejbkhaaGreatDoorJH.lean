/- The walk of Lex at any text of at most twelve bytes. -/
import Derived.Test.YtcgpflkaejbkhaaGreatDoorJG
import Derived.Maps.AppendAt
import Derived.OwnWalk
namespace Go.Proofs.YtcgpflkaejbkhaaGreatDoor
open Go.RowKit

theorem own_kept {w w' : World} {base e size n B : Nat} {v : Value} {xs : List Value} (h : w.ownsRow base e size v n xs) (hB : Below B w w') (hw : w.heap.size ≤ B) : w'.ownsRow base e size v n xs := by
  obtain ⟨h1, h2⟩ := h
  refine ⟨h1, h2.imp id fun ⟨g, cap, cur, e1, e2, e3, e4⟩ => ⟨g, cap, cur, e1, e2, ?_, e4⟩⟩
  have hlt : g < w.heap.size := heap_lt e3
  exact (hB.block g (by omega)).trans e3
theorem info36 : (Tryz.prog.info? 102).map (fun i => (i.zero, i.size, i.bytes)) = some (some (.agg #[.int .i64 0, .string ⟨#[]⟩, .int .i64 0]), 3, 32) := by kernel_rfl
/-- one word behind a row of words of the call's own -/
theorem tok_app (w : World) (base : Nat) (ty : TypeId) (v : Value) (n : Nat) (xs : List Value) (hown : w.ownsRow base 102 3 v n xs) (ad : Addr) (c : Nat) (x y z : Value) (h1 : x.oneCell' = true) (h2 : y.oneCell' = true) (h3 : z.oneCell' = true)
    (q0 : w.cell? (ad.add 0) = some x) (q1 : w.cell? (ad.add 1) = some y) (q2 : w.cell? (ad.add 2) = some z) (hl : n ≤ 2000) (hbase : base ≤ w.heap.size) :
    ∃ v' w', (Builtin.append_ #[98, 98] ty #[v, .slice (some ad) 1 c]).run Tryz.prog w = .ok v' w' ∧ w'.ownsRow base 102 3 v' (n + 1) (xs ++ [x, y, z]) ∧ w.grownBy w' v.ownBlock := by
  obtain ⟨i0, hi0, hz0, hz1, hz2⟩ := info_parts info36
  obtain ⟨v', w', g1, g2, g3, _, g5⟩ := run_append_own_at (P := Tryz.prog) w base 98 ty 102 i0 (.agg #[.int .i64 0, .string ⟨#[]⟩, .int .i64 0]) 3 32 Tryz.underlying98 hi0 hz0 hz1 hz2 rfl (by omega) v n xs hown ad 1 c [x, y, z] rfl
    (fun j u hj => by
      match j, hj with
      | 0, hj => cases hj; exact q0
      | 1, hj => cases hj; exact q1
      | 2, hj => cases hj; exact q2
      | j + 3, hj => simp at hj)
    (fun u hu => by
      simp only [List.mem_cons, List.mem_nil_iff, or_false] at hu
      rcases hu with rfl | rfl | rfl <;> assumption)
    (by unfold maxLen; omega) (by omega) hbase
  exact ⟨v', w', g1, g2, g3⟩
theorem list_tok (w : World) {ops : Array Oper} {rest : List Oper} {o : Oper} {a : Act} {Q : Exit → Act → World → Prop} (hgd : o.guard = none) (s x : Operand)
    (ho : o.op = .call { callee := .builtin .append, args := #[s, x], argTypes := #[98, 98] }) (base : Nat) (v : Value) (n : Nat) (xs : List Value) (hv : a.eval s = v) (hown : w.ownsRow base 102 3 v n xs)
    (ad : Addr) (c : Nat) (k t e : Value) (hx : a.eval x = .slice (some ad) 1 c) (h1 : k.oneCell' = true) (h2 : t.oneCell' = true) (h3 : e.oneCell' = true)
    (q0 : w.cell? (ad.add 0) = some k) (q1 : w.cell? (ad.add 1) = some t) (q2 : w.cell? (ad.add 2) = some e) (hl : n ≤ 2000) (hbase : base ≤ w.heap.size)
    (h : ∀ v' w', w'.ownsRow base 102 3 v' (n + 1) (xs ++ [k, t, e]) → w.grownBy w' v.ownBlock → wpList Tryz.prog ops Q rest (a.put o.dst v') w') : wpList Tryz.prog ops Q (o :: rest) a w := by
  refine wpList_plain hgd fun K hK => ?_
  obtain ⟨v', w', hrun, g2, g3⟩ := tok_app w base o.type v n xs hown ad c k t e h1 h2 h3 q0 q1 q2 hl hbase
  unfold Oper.wp
  simp only [execOp, ho, resolve, invoke, builtin, Sem.run_bind, Sem.run_pure, Result.andThen_ok, List.map_toArray, List.map_cons, List.map_nil, hv, hx, hrun]
  exact hK _ _ (h v' w' g2 g3)
theorem tok_cells (w : World) (O : Obj) (x y z : Value) : ((w.alloc O).alloc (.cells #[x, y, z] 102)).cell? ((⟨w.heap.size + 1, 0, none⟩ : Addr).add 0) = some x ∧ ((w.alloc O).alloc (.cells #[x, y, z] 102)).cell? ((⟨w.heap.size + 1, 0, none⟩ : Addr).add 1) = some y ∧ ((w.alloc O).alloc (.cells #[x, y, z] 102)).cell? ((⟨w.heap.size + 1, 0, none⟩ : Addr).add 2) = some z := by
  have hq := heap_alloc_new (w.alloc O) (.cells #[x, y, z] 102)
  rw [World.size_alloc] at hq
  exact ⟨cell_of_row _ _ 0 _ _ _ hq, cell_of_row _ _ 1 _ _ _ hq, cell_of_row _ _ 2 _ _ _ hq⟩
theorem tok_first {wo : World} {base n : Nat} {v k t e : Value} {xs : List Value} {O : Obj} (w w4 : World) (ho : wo.ownsRow base 102 3 v n xs) (hw : wo.heap.size ≤ w.heap.size) (hg : ((w.alloc (.cells #[k, t, e] 102)).alloc O).grownBy w4 v.ownBlock) : w4.cell? ⟨w.heap.size, 0, none⟩ = some k := by
  have hq := heap_alloc_new w (.cells #[k, t, e] 102)
  have hq2 := (heap_alloc_old (w.alloc (.cells #[k, t, e] 102)) O (r := w.heap.size) (by simp)).trans hq
  have hq3 := (hg.block w.heap.size (by simp; omega) (fun h => by have := (ho.lt _ h.symm).2; omega)).trans hq2
  exact cell_of_row _ _ 0 _ _ _ hq3
theorem drop_list (s : ByteArray) (p : Nat) : (s.extract p s.size).data.toList = s.data.toList.drop p := by
  have hsl : s.data.toList.length = s.size := by show _ = s.data.size; simp
  rw [ByteArray.data_extract, Array.toList_extract, List.extract_eq_take_drop, List.take_of_length_le]
  rw [List.length_drop, hsl]
  exact Nat.le_refl _
/-- what Lex answers: an error, or words -/
def LexP (L : List UInt8) (w : World) (e : Ending) (w' : World) : Prop := ∃ (v : Value) (p er : Int), e = .returned (.tuple #[v, .int .i64 p, .int .i64 er]) ∧ Below w.heap.size w w' ∧
  ((er ≠ 0 ∧ nameB L = false) ∨ (er = 0 ∧ ∃ cnt xs, w'.ownsRow w.heap.size 102 3 v cnt xs ∧ LexFin L cnt xs))
theorem nx_cases (er k : Int) : ((er ≠ 0 ∧ (er != 0) = true) ∨ (er = 0 ∧ k = 0)) ∨ (er = 0 ∧ k ≠ 0 ∧ (k == 0) = false) := by
  by_cases h1 : er = 0
  · by_cases h2 : k = 0
    · exact Or.inl (Or.inr ⟨h1, h2⟩)
    · exact Or.inr ⟨h1, h2, beq_eq_false_iff_ne.2 h2⟩
  · exact Or.inl (Or.inl ⟨h1, bne_iff_ne.2 h1⟩)
theorem word_end {l : List UInt8} {k : Int} {S : ByteArray} {n : Nat} (h : WordAt l k S n 0) (hk : k = 0) : l = [] := by
  rcases h with ⟨h, _⟩ | ⟨c, r, _, _, _, _, _, _, h⟩ | ⟨c, r, _, _, h⟩
  · exact h
  · rcases h with ⟨_, h⟩ | ⟨_, h, _⟩ <;> omega
  · exact absurd hk (h rfl).1
set_option maxRecDepth 100000 in
set_option maxHeartbeats 16000000 in
theorem lex_any (m : Int) (t : Nat → Nat) (ht : ∀ j, j < 23 → finD (Ieee.double.read (t j)) = true) (s : ByteArray) (w : World) (hG : Glob m t w) (hs : s.size ≤ 12) : Calls Tryz.prog 59 #[.string s, .int .i64 12] w (LexP s.data.toList w) := by
  have HG := Lib.hid hG
  have HNX := Lib.hid (fun U W g h => next_any m t ht U W g h)
  have hsl : s.data.toList.length = s.size := by show _ = s.data.size; simp
  have HSL := Lib.hid hsl
  have h12n : s.data.toList.length ≤ 12 := by omega
  have h12 : ((12 : Int) < (s.size : Int)) = False := eq_false (by omega)
  clear hG ht hsl
  go_enter Tryz.func59, Tryz.ntmps59
  go_wp2_with fail
  go_loopw [7, 8] (fun v i wr => ∃ (cnt p : Nat) (xs : List Value), i = .int .i64 p ∧ Hid (LexInv s.data.toList cnt xs p) ∧ Hid (wr.ownsRow w.heap.size 102 3 v cnt xs) ∧ Hid (Below w.heap.size w wr)) (fun _ i _ => s.size + 1 - (intOf i).toNat)
  case atStart => exact ⟨0, 0, [], rfl, Lib.hid (lex_start _), Lib.hid (World.ownsRow_nil _ _ _ _), Lib.hid (Below.refl _ _)⟩
  case round =>
    obtain ⟨cnt, p, xs, rfl, HI, HO, HB⟩ := hrel
    obtain ⟨wo, rfl⟩ : ∃ wo : World, wo = wr := ⟨_, rfl⟩
    have hp : p ≤ s.size := by have := HI.out.1; rw [HSL.out] at this; exact this
    have hcnt : cnt ≤ p := HI.out.2.1
    obtain ⟨T, hT⟩ : ∃ T, T = s.extract p s.size := ⟨_, rfl⟩
    have hT2 : s.extract p s.size = T := hT.symm
    have hTL : T.data.toList = s.data.toList.drop p := by rw [hT]; exact drop_list s p
    have hTs : T.size ≤ 200 := by rw [hT, ByteArray.size_extract]; omega
    obtain ⟨j, hj⟩ : ∃ j, j = spanR blaP T.data.toList := ⟨_, rfl⟩
    have HJ := Lib.hid (show j = spanR blaP (s.data.toList.drop p) by rw [hj, hTL])
    have HBL := Lib.hid (show ∀ W, Calls Tryz.prog 94 #[.string T, .func (.func 95) #[] #[]] W (RetV (.int .i64 (j : Int)) W) from fun W => by rw [hj]; exact bla_span T hTs W)
    have hpj : p + j ≤ s.size := by
      have h := spanR_le blaP (s.data.toList.drop p)
      rw [← HJ.out, List.length_drop, HSL.out] at h
      omega
    obtain ⟨U, hU⟩ : ∃ U, U = s.extract (p + j) s.size := ⟨_, rfl⟩
    have hU2 : s.extract (p + j) s.size = U := hU.symm
    have HUL := Lib.hid (show U.data.toList = s.data.toList.drop (p + spanR blaP (s.data.toList.drop p)) by rw [← HJ.out, hU]; exact drop_list s _)
    have HNU := Lib.hid (show ∀ W, Glob m t W → Calls Tryz.prog 96 #[.string U] W (NextP U W) from fun W g => HNX.out U W g (by rw [hU, ByteArray.size_extract]; omega))
    clear hT hTL hTs hj hU
    go_wp2_with (first
      | (go_at_call 94; (with_reducible refine (HBL.out _).mono ?_); rintro e w2 ⟨rfl, hB2⟩; have HW2 := Lib.hid (HB.out.trans (hB2.mono HB.out.size)); have HX2 := Lib.hid hB2; clear hB2)
      | (go_at_call 96; (with_reducible refine (HNU.out _ (HG.out.keep HW2.out)).mono ?_); rintro e w3 ⟨k, er, S, n, rfl, hB3, hW⟩; have HW3 := Lib.hid (HW2.out.trans (hB3.mono HW2.out.size)); have HX3 := Lib.hid (HX2.out.trans (hB3.mono HX2.out.size)); have HWA := Lib.hid hW; clear hB3 hW; unfold nextV tokV
         rcases (show ((er ≠ 0 ∧ (er != 0) = true) ∨ (er = 0 ∧ k = 0)) ∨ (er = 0 ∧ k ≠ 0 ∧ (k == 0) = false ∧ 1 ≤ n ∧ p + j + n ≤ s.size ∧ Hid (LexInv s.data.toList (cnt + 1) (xs ++ [.int .i64 k, .string S, .int .i64 ((p + j : Nat) : Int)]) (p + j + n))) from by
            rcases nx_cases er k with h | ⟨rfl, hk, hk2⟩
            · exact Or.inl h
            · have HLW := lex_word HI.out h12n (HUL.out ▸ HWA.out) hk (.int .i64 ((p + j : Nat) : Int))
              rw [← HJ.out] at HLW
              exact Or.inr ⟨rfl, hk, hk2, HLW.2, by have h := HLW.1.1; rw [HSL.out] at h; exact h, Lib.hid HLW.1⟩) with (⟨he, he2⟩ | ⟨rfl, rfl⟩) | ⟨rfl, hk, hk2, hn1, hn, HLI⟩)
      | (at_builtin
         go_loud (refine list_tok _ (by rfl) (.tmp 36) (.tmp 38) (by rfl) w.heap.size u7 cnt xs (by rfl) (own_kept HO.out ((HX3.out.alloc HX3.out.size _).alloc (by have := HX3.out.size; simp; omega) _) (Nat.le_refl _)) ⟨w3.heap.size + 1, 0, none⟩ 1 (.int .i64 _) (.string S) (.int .i64 ((p + j : Nat) : Int)) (by rfl) (by rfl) (by rfl) (by rfl) (tok_cells w3 _ _ _ _).1 (tok_cells w3 _ _ _ _).2.1 (tok_cells w3 _ _ _ _).2.2 (by omega) (by have := HW3.out.size; simp; omega) ?_)
         intro v4 w4 hown4 hg4
         have HO4 := Lib.hid hown4
         have HW4 := Lib.hid (((HW3.out.alloc HW3.out.size _).alloc (by have := HW3.out.size; simp; omega) _).grown hg4 (by have := HW3.out.size; simp; omega) (fun k hk => (HO.out.lt k hk).1))
         have r0 := tok_first w3 w4 HO.out HX3.out.size hg4
         clear hown4 hg4)
      | fail)
    · exact bodyPost_ret (v := .tuple #[.slice none 0 0, .int .i64 ((p : Int) + j), .int .i64 er]) (by simp [results, Tryz.results59, go_sem]) rfl ⟨_, _, er, rfl, HW3.out.alloc HW3.out.size _, Or.inl ⟨he, lex_err HI.out (HUL.out ▸ HWA.out) he⟩⟩
    · exact bodyPost_ret (v := .tuple #[v4, .int .i64 0, .int .i64 0]) (by simp [results, Tryz.results59, go_sem]) rfl ⟨v4, 0, 0, rfl, HW4.out, Or.inr ⟨rfl, cnt + 1, _, HO4.out, lex_end HI.out (HUL.out ▸ word_end HWA.out rfl) S _⟩⟩
    · go_roundw
      case rel => exact ⟨cnt + 1, p + j + n, _, by go_num, HLI, HO4, HW4⟩
      case measure => simp [intOf] <;> omega
end Go.Proofs.YtcgpflkaejbkhaaGreatDoor
