/- The walk of Lex at any text of at most twelve bytes. -/
import Derived.Test.YtcgpflkaejbkhaaGreatDoorQAE
import Derived.Maps.AppendAt
import Derived.OwnWalk
import Derived.Test.YtcgpflkaejbkhaaGreatDoorQAD
namespace Go.Proofs.YtcgpflkaejbkhaaGreatDoor
open Go.RowKit

theorem own_kept {w w' : World} {base e size n B : Nat} {v : Value} {xs : List Value} (h : w.ownsRow base e size v n xs) (hB : Below B w w') (hw : w.heap.size ≤ B) : w'.ownsRow base e size v n xs := by
 obtain ⟨h1, h2⟩ := h
 refine ⟨h1, h2.imp id fun ⟨g, cap, cur, e1, e2, e3, e4⟩ => ⟨g, cap, cur, e1, e2, ?_, e4⟩⟩
 have hlt : g < w.heap.size := heap_lt e3
 exact (hB.block g (by omega)).trans e3
theorem info36 : (Tryz.prog.info? 102).map (fun i => (i.zero, i.size, i.bytes)) = some (some (.agg #[.int .i64 0, .string ⟨#[]⟩, .int .i64 0]), 3, 32) := by kernel_rfl
theorem tok_app (w : World) (base : Nat) (ty : TypeId) (v : Value) (n : Nat) (xs : List Value) (hown : w.ownsRow base 102 3 v n xs) (ad : Addr) (c : Nat) (x y z : Value) (h1 : x.oneCell' = true) (h2 : y.oneCell' = true) (h3 : z.oneCell' = true)
   (q0 : w.cell? (ad.add 0) = some x) (q1 : w.cell? (ad.add 1) = some y) (q2 : w.cell? (ad.add 2) = some z) (hl : n ≤ 2000) (hbase : base ≤ w.heap.size) :
   ∃ v' w', (Builtin.append_ #[98, 98] ty #[v, .slice (some ad) 1 c]).run Tryz.prog w = .ok v' w' ∧ w'.ownsRow base 102 3 v' (n + 1) (xs ++ [x, y, z]) ∧ w.grownBy w' v.ownBlock := by
 obtain ⟨i0, hi0, hz0, hz1, hz2⟩ := info_parts info36
 obtain ⟨v', w', g1, g2, g3, _, g5⟩ := run_append_own_at (P := Tryz.prog) w base 98 ty 102 i0 (.agg #[.int .i64 0, .string ⟨#[]⟩, .int .i64 0]) 3 32 Tryz.underlying98 hi0 hz0 hz1 hz2 rfl (by omega) v n xs hown ad 1 c [x, y, z] rfl
   (fun j u hj => by
     match j, hj with
     | 0, hj => cases hj; exact q0
     | 1, hj => cases hj; exact q1
     | 2, hj => cases hj; exact q2
     | j + 3, hj => simp at hj)
   (fun u hu => by
     simp only [List.mem_cons, List.mem_nil_iff, or_false] at hu
     rcases hu with rfl | rfl | rfl <;> assumption)
   (by unfold maxLen; omega) (by omega) hbase
 exact ⟨v', w', g1, g2, g3⟩
theorem list_tok (w : World) {ops : Array Oper} {rest : List Oper} {o : Oper} {a : Act} {Q : Exit → Act → World → Prop} (hgd : o.guard = none) (s x : Operand)
   (ho : o.op = .call { callee := .builtin .append, args := #[s, x], argTypes := #[98, 98] }) (base : Nat) (v : Value) (n : Nat) (xs : List Value) (hv : a.eval s = v) (hown : w.ownsRow base 102 3 v n xs)
   (ad : Addr) (c : Nat) (k t e : Value) (hx : a.eval x = .slice (some ad) 1 c) (h1 : k.oneCell' = true) (h2 : t.oneCell' = true) (h3 : e.oneCell' = true)
   (q0 : w.cell? (ad.add 0) = some k) (q1 : w.cell? (ad.add 1) = some t) (q2 : w.cell? (ad.add 2) = some e) (hl : n ≤ 2000) (hbase : base ≤ w.heap.size)
   (h : ∀ v' w', w'.ownsRow base 102 3 v' (n + 1) (xs ++ [k, t, e]) → w.grownBy w' v.ownBlock → wpList Tryz.prog ops Q rest (a.put o.dst v') w') : wpList Tryz.prog ops Q (o :: rest) a w := by
 refine wpList_plain hgd fun K hK => ?_
 obtain ⟨v', w', hrun, g2, g3⟩ := tok_app w base o.type v n xs hown ad c k t e h1 h2 h3 q0 q1 q2 hl hbase
 unfold Oper.wp
 simp only [execOp, ho, resolve, invoke, builtin, Sem.run_bind, Sem.run_pure, Result.andThen_ok, List.map_toArray, List.map_cons, List.map_nil, hv, hx, hrun]
 exact hK _ _ (h v' w' g2 g3)
theorem tok_cells (w : World) (O : Obj) (x y z : Value) : ((w.alloc O).alloc (.cells #[x, y, z] 102)).cell? ((⟨w.heap.size + 1, 0, none⟩ : Addr).add 0) = some x ∧ ((w.alloc O).alloc (.cells #[x, y, z] 102)).cell? ((⟨w.heap.size + 1, 0, none⟩ : Addr).add 1) = some y ∧ ((w.alloc O).alloc (.cells #[x, y, z] 102)).cell? ((⟨w.heap.size + 1, 0, none⟩ : Addr).add 2) = some z := by
 have hq := heap_alloc_new (w.alloc O) (.cells #[x, y, z] 102)
 rw [World.size_alloc] at hq
 exact ⟨cell_of_row _ _ 0 _ _ _ hq, cell_of_row _ _ 1 _ _ _ hq, cell_of_row _ _ 2 _ _ _ hq⟩
theorem tok_first {wo : World} {base n : Nat} {v k t e : Value} {xs : List Value} {O : Obj} (w w4 : World) (ho : wo.ownsRow base 102 3 v n xs) (hw : wo.heap.size ≤ w.heap.size) (hg : ((w.alloc (.cells #[k, t, e] 102)).alloc O).grownBy w4 v.ownBlock) : w4.cell? ⟨w.heap.size, 0, none⟩ = some k := by
 have hq := heap_alloc_new w (.cells #[k, t, e] 102)
 have hq2 := (heap_alloc_old (w.alloc (.cells #[k, t, e] 102)) O (r := w.heap.size) (by simp)).trans hq
 have hq3 := (hg.block w.heap.size (by simp; omega) (fun h => by have := (ho.lt _ h.symm).2; omega)).trans hq2
 exact cell_of_row _ _ 0 _ _ _ hq3
theorem drop_list (s : ByteArray) (p : Nat) : (s.extract p s.size).data.toList = s.data.toList.drop p := by
 have hsl : s.data.toList.length = s.size := by show _ = s.data.size; simp
 rw [ByteArray.data_extract, Array.toList_extract, List.extract_eq_take_drop, List.take_of_length_le]
 rw [List.length_drop, hsl]
 exact Nat.le_refl _
def LexP (L : List UInt8) (w : World) (e : Ending) (w' : World) : Prop := ∃ (v : Value) (p er : Int), e = .returned (.tuple #[v, .int .i64 p, .int .i64 er]) ∧ Below w.heap.size w w' ∧
 ((er ≠ 0 ∧ nameB L = false) ∨ (er = 0 ∧ ∃ cnt xs, w'.ownsRow w.heap.size 102 3 v cnt xs ∧ LexFin L cnt xs))
theorem nx_cases (er k : Int) : ((er ≠ 0 ∧ (er != 0) = true) ∨ (er = 0 ∧ k = 0)) ∨ (er = 0 ∧ k ≠ 0 ∧ (k == 0) = false) := by
 by_cases h1 : er = 0
 · by_cases h2 : k = 0
   · exact Or.inl (Or.inr ⟨h1, h2⟩)
   · exact Or.inr ⟨h1, h2, beq_eq_false_iff_ne.2 h2⟩
 · exact Or.inl (Or.inl ⟨h1, bne_iff_ne.2 h1⟩)
theorem word_end {l : List UInt8} {k : Int} {S : ByteArray} {n : Nat} (h : WordAt l k S n 0) (hk : k = 0) : l = [] := by
 rcases h with ⟨h, _⟩ | ⟨c, r, _, _, _, _, _, _, h⟩ | ⟨c, r, _, _, h⟩
 · exact h
 · rcases h with ⟨_, h⟩ | ⟨_, h, _⟩ <;> omega
 · exact absurd hk (h rfl).1
set_option maxRecDepth 100000 in
set_option maxHeartbeats 16000000 in
theorem lex_any (m : Int) (t : Nat → Nat) (ht : ∀ j, j < 23 → finD (Ieee.double.read (t j)) = true) (s : ByteArray) (w : World) (hG : Glob m t w) (hs : s.size ≤ 12) : Calls Tryz.prog 59 #[.string s, .int .i64 12] w (LexP s.data.toList w) := by
 have HG := Lib.hid hG
 have HNX := Lib.hid (fun U W g h => next_any m t ht U W g h)
 have hsl : s.data.toList.length = s.size := by show _ = s.data.size; simp
 have HSL := Lib.hid hsl
 have h12n : s.data.toList.length ≤ 12 := by omega
 have h12 : ((12 : Int) < (s.size : Int)) = False := eq_false (by omega)
 clear hG ht hsl
 go_enter Tryz.func59, Tryz.ntmps59
 go_wp2_with fail
 go_loopw [7, 8] (fun v i wr => ∃ (cnt p : Nat) (xs : List Value), i = .int .i64 p ∧ Hid (LexInv s.data.toList cnt xs p) ∧ Hid (wr.ownsRow w.heap.size 102 3 v cnt xs) ∧ Hid (Below w.heap.size w wr)) (fun _ i _ => s.size + 1 - (intOf i).toNat)
 case atStart => exact ⟨0, 0, [], rfl, Lib.hid (lex_start _), Lib.hid (World.ownsRow_nil _ _ _ _), Lib.hid (Below.refl _ _)⟩
 case round =>
   obtain ⟨cnt, p, xs, rfl, HI, HO, HB⟩ := hrel
   obtain ⟨wo, rfl⟩ : ∃ wo : World, wo = wr := ⟨_, rfl⟩
   have hp : p ≤ s.size := by have := HI.out.1; rw [HSL.out] at this; exact this
   have hcnt : cnt ≤ p := HI.out.2.1
   obtain ⟨T, hT⟩ : ∃ T, T = s.extract p s.size := ⟨_, rfl⟩
   have hT2 : s.extract p s.size = T := hT.symm
   have hTL : T.data.toList = s.data.toList.drop p := by rw [hT]; exact drop_list s p
   have hTs : T.size ≤ 200 := by rw [hT, ByteArray.size_extract]; omega
   obtain ⟨j, hj⟩ : ∃ j, j = spanR blaP T.data.toList := ⟨_, rfl⟩
   have HJ := Lib.hid (show j = spanR blaP (s.data.toList.drop p) by rw [hj, hTL])
   have HBL := Lib.hid (show ∀ W, Calls Tryz.prog 94 #[.string T, .func (.func 95) #[] #[]] W (RetV (.int .i64 (j : Int)) W) from fun W => by rw [hj]; exact bla_span T hTs W)
   have hpj : p + j ≤ s.size := by
     have h := spanR_le blaP (s.data.toList.drop p)
     rw [← HJ.out, List.length_drop, HSL.out] at h
     omega
   obtain ⟨U, hU⟩ : ∃ U, U = s.extract (p + j) s.size := ⟨_, rfl⟩
   have hU2 : s.extract (p + j) s.size = U := hU.symm
   have HUL := Lib.hid (show U.data.toList = s.data.toList.drop (p + spanR blaP (s.data.toList.drop p)) by rw [← HJ.out, hU]; exact drop_list s _)
   have HNU := Lib.hid (show ∀ W, Glob m t W → Calls Tryz.prog 96 #[.string U] W (NextP U W) from fun W g => HNX.out U W g (by rw [hU, ByteArray.size_extract]; omega))
   clear hT hTL hTs hj hU
   go_wp2_with (first
     | (go_at_call 94; (with_reducible refine (HBL.out _).mono ?_); rintro e w2 ⟨rfl, hB2⟩; have HW2 := Lib.hid (HB.out.trans (hB2.mono HB.out.size)); have HX2 := Lib.hid hB2; clear hB2)
     | (go_at_call 96; (with_reducible refine (HNU.out _ (HG.out.keep HW2.out)).mono ?_); rintro e w3 ⟨k, er, S, n, rfl, hB3, hW⟩; have HW3 := Lib.hid (HW2.out.trans (hB3.mono HW2.out.size)); have HX3 := Lib.hid (HX2.out.trans (hB3.mono HX2.out.size)); have HWA := Lib.hid hW; clear hB3 hW; unfold nextV tokV
        rcases (show ((er ≠ 0 ∧ (er != 0) = true) ∨ (er = 0 ∧ k = 0)) ∨ (er = 0 ∧ k ≠ 0 ∧ (k == 0) = false ∧ 1 ≤ n ∧ p + j + n ≤ s.size ∧ Hid (LexInv s.data.toList (cnt + 1) (xs ++ [.int .i64 k, .string S, .int .i64 ((p + j : Nat) : Int)]) (p + j + n))) from by
           rcases nx_cases er k with h | ⟨rfl, hk, hk2⟩
           · exact Or.inl h
           · have HLW := lex_word HI.out h12n (HUL.out ▸ HWA.out) hk (.int .i64 ((p + j : Nat) : Int))
             rw [← HJ.out] at HLW
             exact Or.inr ⟨rfl, hk, hk2, HLW.2, by have h := HLW.1.1; rw [HSL.out] at h; exact h, Lib.hid HLW.1⟩) with (⟨he, he2⟩ | ⟨rfl, rfl⟩) | ⟨rfl, hk, hk2, hn1, hn, HLI⟩)
     | (at_builtin
        go_loud (refine list_tok _ (by rfl) (.tmp 36) (.tmp 38) (by rfl) w.heap.size u7 cnt xs (by rfl) (own_kept HO.out ((HX3.out.alloc HX3.out.size _).alloc (by have := HX3.out.size; simp; omega) _) (Nat.le_refl _)) ⟨w3.heap.size + 1, 0, none⟩ 1 (.int .i64 _) (.string S) (.int .i64 ((p + j : Nat) : Int)) (by rfl) (by rfl) (by rfl) (by rfl) (tok_cells w3 _ _ _ _).1 (tok_cells w3 _ _ _ _).2.1 (tok_cells w3 _ _ _ _).2.2 (by omega) (by have := HW3.out.size; simp; omega) ?_)
        intro v4 w4 hown4 hg4
        have HO4 := Lib.hid hown4
        have HW4 := Lib.hid (((HW3.out.alloc HW3.out.size _).alloc (by have := HW3.out.size; simp; omega) _).grown hg4 (by have := HW3.out.size; simp; omega) (fun k hk => (HO.out.lt k hk).1))
        have r0 := tok_first w3 w4 HO.out HX3.out.size hg4
        clear hown4 hg4)
     | fail)
   · exact bodyPost_ret (v := .tuple #[.slice none 0 0, .int .i64 ((p : Int) + j), .int .i64 er]) (by simp [results, Tryz.results59, go_sem]) rfl ⟨_, _, er, rfl, HW3.out.alloc HW3.out.size _, Or.inl ⟨he, lex_err HI.out (HUL.out ▸ HWA.out) he⟩⟩
   · exact bodyPost_ret (v := .tuple #[v4, .int .i64 0, .int .i64 0]) (by simp [results, Tryz.results59, go_sem]) rfl ⟨v4, 0, 0, rfl, HW4.out, Or.inr ⟨rfl, cnt + 1, _, HO4.out, lex_end HI.out (HUL.out ▸ word_end HWA.out rfl) S _⟩⟩
   · go_roundw
     case rel => exact ⟨cnt + 1, p + j + n, _, by go_num, HLI, HO4, HW4⟩
     case measure => simp [intOf] <;> omega
end Go.Proofs.YtcgpflkaejbkhaaGreatDoor
namespace Go.Proofs.YtcgpflkaejbkhaaGreatDoor
open Go.RowKit

theorem rword_any (m : Int) (t : Nat → Nat) (ht : ∀ j, j < 23 → finD (Ieee.double.read (t j)) = true) (s : ByteArray) (p : Nat) (w : World) (hG : Glob m t w) (hs : s.size ≤ 12) (hp : p ≤ s.size) : Calls Tryz.prog 99 #[.string s, .int .i64 (p : Int)] w (RWordP s p w) := by
 by_cases h0 : p < s.size
 · cases hl : letP (s[p].toNat : Int) with
   | true => exact rword_letter s p w h0 hs hl
   | false =>
     cases hd : digP (s[p].toNat : Int) with
     | true => exact (rword_digit m t ht s p w hG h0 hs hd).mono fun e w' h => rother_word h0 hl h
     | false =>
       by_cases hq : s[p] = 39
       · exact (rword_quote s p w h0 hs hq).mono fun e w' h => rother_word h0 hl h
       · exact (rword_sign s p w h0 hs hl hd hq).mono fun e w' h => rother_word h0 hl h
 · exact rword_end s p w (by omega)
set_option maxRecDepth 100000 in
set_option maxHeartbeats 16000000 in
theorem rlex_any (m : Int) (t : Nat → Nat) (ht : ∀ j, j < 23 → finD (Ieee.double.read (t j)) = true) (s : ByteArray) (w : World) (hG : Glob m t w) (hs : s.size ≤ 12) : Calls Tryz.prog 70 #[.string s, .int .i64 12] w (LexP s.data.toList w) := by
 have HG := Lib.hid hG
 have HNX := Lib.hid (fun p W g h => rword_any m t ht s p W g hs h)
 have hsl : s.data.toList.length = s.size := by show _ = s.data.size; simp
 have HSL := Lib.hid hsl
 have h12n : s.data.toList.length ≤ 12 := by omega
 have h12 : ((12 : Int) < (s.size : Int)) = False := eq_false (by omega)
 clear hG ht hsl
 go_enter Tryz.func70, Tryz.ntmps70
 go_wp2_with fail
 go_loopw [7, 8] (fun v i wr => ∃ (cnt p : Nat) (xs : List Value), i = .int .i64 p ∧ Hid (LexInv s.data.toList cnt xs p) ∧ Hid (wr.ownsRow w.heap.size 102 3 v cnt xs) ∧ Hid (Below w.heap.size w wr)) (fun _ i _ => s.size + 1 - (intOf i).toNat)
 case atStart => exact ⟨0, 0, [], rfl, Lib.hid (lex_start _), Lib.hid (World.ownsRow_nil _ _ _ _), Lib.hid (Below.refl _ _)⟩
 case round =>
   obtain ⟨cnt, p, xs, rfl, HI, HO, HB⟩ := hrel
   obtain ⟨wo, rfl⟩ : ∃ wo : World, wo = wr := ⟨_, rfl⟩
   have hp : p ≤ s.size := by have := HI.out.1; rw [HSL.out] at this; exact this
   have hcnt : cnt ≤ p := HI.out.2.1
   obtain ⟨j, hj⟩ : ∃ j, j = spanR blaP (s.data.toList.drop p) := ⟨_, rfl⟩
   have HJ := Lib.hid hj
   have hpj : p + j ≤ s.size := by
     have h := spanR_le blaP (s.data.toList.drop p)
     rw [← hj, List.length_drop, HSL.out] at h
     omega
   clear hj
   go_wp2_with fail
   go_loop [8] (fun i => ∃ k : Nat, p ≤ k ∧ k ≤ s.size ∧ i = .int .i64 k ∧ Hid (∀ j d, j < k - p → (s.data.toList.drop p)[j]? = some d → blaP (d.toNat : Int) = true)) (fun i => s.size - (intOf i).toNat)
   case atStart => exact ⟨p, Nat.le_refl _, hp, rfl, Lib.hid (fun j d h => absurd h (by omega))⟩
   case round =>
     obtain ⟨k, hpk, hk, rfl, HC⟩ := hrel
     by_cases hgo : ∃ h : k < s.size, blaP (s[k].toNat : Int) = true
     · obtain ⟨hlt, hq⟩ := hgo
       obtain ⟨d, hd⟩ : ∃ d, d = s[k] := ⟨_, rfl⟩
       have hkd : s[k] = d := hd.symm
       rw [hkd] at hq
       have HC2 := Lib.hid (show ∀ j d, j < k + 1 - p → (s.data.toList.drop p)[j]? = some d → blaP (d.toNat : Int) = true from fun j d' h1 h2 => by
         by_cases e : j = k - p
         · subst e
           rw [List.getElem?_drop, show p + (k - p) = k by omega, Array.getElem?_toList, Array.getElem?_eq_getElem (show k < s.data.size from hlt)] at h2
           cases h2
           exact hkd ▸ hq
         · exact HC.out j d' (by omega) h2)
       have HKD := Lib.hid (fun W => kind_any (d.toNat : Int) W)
       have h3 := kindZ_is3 (d.toNat : Int)
       rw [hq] at h3
       have hd255 : (d.toNat : Int) ≤ 255 := by have := d.toNat_lt; omega
       have hd0 : (0 : Int) ≤ (d.toNat : Int) := by omega
       generalize kindZ (d.toNat : Int) = z at HKD h3
       clear hq hd
       go_wp2_with (first
         | (go_at_call 98; (with_reducible refine (HKD.out _).mono ?_); rintro e' w4 ⟨rfl, rfl⟩)
         | fail)
       go_round
       case rel => exact ⟨k + 1, by omega, by omega, by go_num, HC2⟩
       case measure => simp [intOf] <;> omega
     · have HE := Lib.hid (show k = p + j by
         by_cases hlt : k < s.size
         · have hq : blaP (s[k].toNat : Int) = false := by
             cases h : blaP (s[k].toNat : Int) with
             | false => rfl
             | true => exact absurd ⟨hlt, h⟩ hgo
           have h := span_stop blaP (l := s.data.toList.drop p) (k := k - p) (c := s[k]) HC.out (by rw [List.getElem?_drop, show p + (k - p) = k by omega, Array.getElem?_toList]; exact Array.getElem?_eq_getElem hlt) hq
           rw [HJ.out, h]; omega
         · have h := span_all blaP (l := s.data.toList.drop p) (fun j d h1 h2 => HC.out j d (by rw [List.length_drop, HSL.out] at h1; omega) h2)
           rw [HJ.out, h, List.length_drop, HSL.out]; omega)
       have hno : (((k : Int) < (s.size : Int)) = False) ∨ ∃ (h : k < s.size) (d : UInt8), s[k] = d ∧ (kindZ (d.toNat : Int) == 3) = false := by
         by_cases h : k < s.size
         · right
           refine ⟨h, _, rfl, ?_⟩
           rw [kindZ_is3]
           cases h3 : blaP (s[k].toNat : Int) with
           | false => rfl
           | true => exact absurd ⟨h, h3⟩ hgo
         · exact Or.inl (eq_false (by omega))
       have HKJ := Lib.hid (show p + spanR blaP (s.data.toList.drop p) = k by rw [← HJ.out]; exact HE.out.symm)
       have HNU := Lib.hid (show ∀ W, Glob m t W → Calls Tryz.prog 99 #[.string s, .int .i64 (k : Int)] W (RWordP s k W) from fun W g => HNX.out k W g hk)
       clear hgo
       rcases hno with hno | ⟨hlt, d, hd, hd3⟩
       · go_wp2_with (first
           | (go_at_call 99; (with_reducible refine (HNU.out _ (HG.out.keep HB.out)).mono ?_); rintro e w3 ⟨q, er, S, n, rfl, hB3, hW⟩; have HW3 := Lib.hid (HB.out.trans (hB3.mono HB.out.size)); have HX3 := Lib.hid hB3; have HWA := Lib.hid hW; clear hB3 hW; unfold wordV tokV
              rcases (show ((er ≠ 0 ∧ (er != 0) = true) ∨ (er = 0 ∧ q = 0)) ∨ (er = 0 ∧ q ≠ 0 ∧ (q == 0) = false ∧ 1 ≤ n ∧ k + n ≤ s.size ∧ Hid (LexInv s.data.toList (cnt + 1) (xs ++ [.int .i64 q, .string S, .int .i64 ((k : Nat) : Int)]) (k + n))) from by
                 rcases nx_cases er q with h | ⟨rfl, hk, hk2⟩
                 · exact Or.inl h
                 · have HLW := lex_word HI.out h12n (show WordAt (s.data.toList.drop (p + spanR blaP (s.data.toList.drop p))) q S n 0 by rw [HKJ.out]; exact HWA.out) hk (.int .i64 ((k : Nat) : Int))
                   rw [HKJ.out] at HLW
                   exact Or.inr ⟨rfl, hk, hk2, HLW.2, by have h := HLW.1.1; rw [HSL.out] at h; exact h, Lib.hid HLW.1⟩) with (⟨he, he2⟩ | ⟨rfl, rfl⟩) | ⟨rfl, hk, hk2, hn1, hn, HLI⟩)
           | (at_builtin
              go_loud (refine list_tok _ (by rfl) (.tmp 40) (.tmp 42) (by rfl) w.heap.size u7 cnt xs (by rfl) (own_kept HO.out ((HX3.out.alloc HX3.out.size _).alloc (by have := HX3.out.size; simp; omega) _) (Nat.le_refl _)) ⟨w3.heap.size + 1, 0, none⟩ 1 (.int .i64 _) (.string S) (.int .i64 ((k : Nat) : Int)) (by rfl) (by rfl) (by rfl) (by rfl) (tok_cells w3 _ _ _ _).1 (tok_cells w3 _ _ _ _).2.1 (tok_cells w3 _ _ _ _).2.2 (by omega) (by have := HW3.out.size; simp; omega) ?_)
              intro v4 w4 hown4 hg4
              have HO4 := Lib.hid hown4
              have HW4 := Lib.hid (((HW3.out.alloc HW3.out.size _).alloc (by have := HW3.out.size; simp; omega) _).grown hg4 (by have := HW3.out.size; simp; omega) (fun k hk => (HO.out.lt k hk).1))
              have r0 := tok_first w3 w4 HO.out HX3.out.size hg4
              clear hown4 hg4)
           | fail)
         · exact bodyPost_ret (v := .tuple #[.slice none 0 0, .int .i64 (k : Int), .int .i64 er]) (by simp [results, Tryz.results70, go_sem]) rfl ⟨_, _, er, rfl, HW3.out.alloc HW3.out.size _, Or.inl ⟨he, lex_err HI.out (show WordAt (s.data.toList.drop (p + spanR blaP (s.data.toList.drop p))) q S n er by rw [HKJ.out]; exact HWA.out) he⟩⟩
         · exact bodyPost_ret (v := .tuple #[v4, .int .i64 0, .int .i64 0]) (by simp [results, Tryz.results70, go_sem]) rfl ⟨v4, 0, 0, rfl, HW4.out, Or.inr ⟨rfl, cnt + 1, _, HO4.out, lex_end HI.out (show s.data.toList.drop (p + spanR blaP (s.data.toList.drop p)) = [] by rw [HKJ.out]; exact word_end HWA.out rfl) S _⟩⟩
         · go_roundw
           case rel => exact ⟨cnt + 1, k + n, _, by go_num, HLI, HO4, HW4⟩
           case measure => simp [intOf] <;> omega
       · have hd255 : (d.toNat : Int) ≤ 255 := by have := d.toNat_lt; omega
         have hd0 : (0 : Int) ≤ (d.toNat : Int) := by omega
         have HKD := Lib.hid (fun W => kind_any (d.toNat : Int) W)
         generalize kindZ (d.toNat : Int) = z at HKD hd3
         go_wp2_with (first
           | (go_at_call 98; (with_reducible refine (HKD.out _).mono ?_); rintro e' w2 ⟨rfl, rfl⟩)
           | (go_at_call 99; (with_reducible refine (HNU.out _ (HG.out.keep HB.out)).mono ?_); rintro e w3 ⟨q, er, S, n, rfl, hB3, hW⟩; have HW3 := Lib.hid (HB.out.trans (hB3.mono HB.out.size)); have HX3 := Lib.hid hB3; have HWA := Lib.hid hW; clear hB3 hW; unfold wordV tokV
              rcases (show ((er ≠ 0 ∧ (er != 0) = true) ∨ (er = 0 ∧ q = 0)) ∨ (er = 0 ∧ q ≠ 0 ∧ (q == 0) = false ∧ 1 ≤ n ∧ k + n ≤ s.size ∧ Hid (LexInv s.data.toList (cnt + 1) (xs ++ [.int .i64 q, .string S, .int .i64 ((k : Nat) : Int)]) (k + n))) from by
                 rcases nx_cases er q with h | ⟨rfl, hk, hk2⟩
                 · exact Or.inl h
                 · have HLW := lex_word HI.out h12n (show WordAt (s.data.toList.drop (p + spanR blaP (s.data.toList.drop p))) q S n 0 by rw [HKJ.out]; exact HWA.out) hk (.int .i64 ((k : Nat) : Int))
                   rw [HKJ.out] at HLW
                   exact Or.inr ⟨rfl, hk, hk2, HLW.2, by have h := HLW.1.1; rw [HSL.out] at h; exact h, Lib.hid HLW.1⟩) with (⟨he, he2⟩ | ⟨rfl, rfl⟩) | ⟨rfl, hk, hk2, hn1, hn, HLI⟩)
           | (at_builtin
              go_loud (refine list_tok _ (by rfl) (.tmp 40) (.tmp 42) (by rfl) w.heap.size u7 cnt xs (by rfl) (own_kept HO.out ((HX3.out.alloc HX3.out.size _).alloc (by have := HX3.out.size; simp; omega) _) (Nat.le_refl _)) ⟨w3.heap.size + 1, 0, none⟩ 1 (.int .i64 _) (.string S) (.int .i64 ((k : Nat) : Int)) (by rfl) (by rfl) (by rfl) (by rfl) (tok_cells w3 _ _ _ _).1 (tok_cells w3 _ _ _ _).2.1 (tok_cells w3 _ _ _ _).2.2 (by omega) (by have := HW3.out.size; simp; omega) ?_)
              intro v4 w4 hown4 hg4
              have HO4 := Lib.hid hown4
              have HW4 := Lib.hid (((HW3.out.alloc HW3.out.size _).alloc (by have := HW3.out.size; simp; omega) _).grown hg4 (by have := HW3.out.size; simp; omega) (fun k hk => (HO.out.lt k hk).1))
              have r0 := tok_first w3 w4 HO.out HX3.out.size hg4
              clear hown4 hg4)
           | fail)
         · exact bodyPost_ret (v := .tuple #[.slice none 0 0, .int .i64 (k : Int), .int .i64 er]) (by simp [results, Tryz.results70, go_sem]) rfl ⟨_, _, er, rfl, HW3.out.alloc HW3.out.size _, Or.inl ⟨he, lex_err HI.out (show WordAt (s.data.toList.drop (p + spanR blaP (s.data.toList.drop p))) q S n er by rw [HKJ.out]; exact HWA.out) he⟩⟩
         · exact bodyPost_ret (v := .tuple #[v4, .int .i64 0, .int .i64 0]) (by simp [results, Tryz.results70, go_sem]) rfl ⟨v4, 0, 0, rfl, HW4.out, Or.inr ⟨rfl, cnt + 1, _, HO4.out, lex_end HI.out (show s.data.toList.drop (p + spanR blaP (s.data.toList.drop p)) = [] by rw [HKJ.out]; exact word_end HWA.out rfl) S _⟩⟩
         · go_roundw
           case rel => exact ⟨cnt + 1, k + n, _, by go_num, HLI, HO4, HW4⟩
           case measure => simp [intOf] <;> omega
end Go.Proofs.YtcgpflkaejbkhaaGreatDoor
namespace Go.Proofs.YtcgpflkaejbkhaaGreatDoor
open Go.RowKit

theorem nameB_long {L : List UInt8} (h : 12 < L.length) : nameB L = false := by
 cases hb : nameB L with
 | false => rfl
 | true => have := (nameB_iff.1 hb).1; omega
set_option maxRecDepth 100000 in
theorem lex_long (s : ByteArray) (w : World) (hs : 12 < s.size) : Calls Tryz.prog 59 #[.string s, .int .i64 12] w (LexP s.data.toList w) := by
 have HN := Lib.hid (nameB_long (L := s.data.toList) (by rw [Array.length_toList]; exact hs))
 have h12 : ((12 : Int) < (s.size : Int)) = True := eq_true (by omega)
 go_enter Tryz.func59, Tryz.ntmps59
 go_wp2_with fail
 exact bodyPost_ret (v := .tuple #[.slice none 0 0, .int .i64 0, .int .i64 4]) (by simp [results, Tryz.results59, go_sem]) rfl ⟨_, _, 4, rfl, Below.refl _ _, Or.inl ⟨by decide, HN.out⟩⟩
set_option maxRecDepth 100000 in
theorem rlex_long (s : ByteArray) (w : World) (hs : 12 < s.size) : Calls Tryz.prog 70 #[.string s, .int .i64 12] w (LexP s.data.toList w) := by
 have HN := Lib.hid (nameB_long (L := s.data.toList) (by rw [Array.length_toList]; exact hs))
 have h12 : ((12 : Int) < (s.size : Int)) = True := eq_true (by omega)
 go_enter Tryz.func70, Tryz.ntmps70
 go_wp2_with fail
 exact bodyPost_ret (v := .tuple #[.slice none 0 0, .int .i64 0, .int .i64 4]) (by simp [results, Tryz.results70, go_sem]) rfl ⟨_, _, 4, rfl, Below.refl _ _, Or.inl ⟨by decide, HN.out⟩⟩
theorem lex_all (m : Int) (t : Nat → Nat) (ht : ∀ j, j < 23 → finD (Ieee.double.read (t j)) = true) (s : ByteArray) (w : World) (hG : Glob m t w) : Calls Tryz.prog 59 #[.string s, .int .i64 12] w (LexP s.data.toList w) := by
 by_cases hs : s.size ≤ 12
 · exact lex_any m t ht s w hG hs
 · exact lex_long s w (by omega)
theorem rlex_all (m : Int) (t : Nat → Nat) (ht : ∀ j, j < 23 → finD (Ieee.double.read (t j)) = true) (s : ByteArray) (w : World) (hG : Glob m t w) : Calls Tryz.prog 70 #[.string s, .int .i64 12] w (LexP s.data.toList w) := by
 by_cases hs : s.size ≤ 12
 · exact rlex_any m t ht s w hG hs
 · exact rlex_long s w (by omega)
theorem lexfin_cells {w w' : World} {L : List UInt8} {v : Value} {cnt : Nat} {xs : List Value} (h : w'.ownsRow w.heap.size 102 3 v cnt xs) (hf : LexFin L cnt xs) :
   ∃ g cap k S, v = .slice (some ⟨g, 0, none⟩) cnt cap ∧ w'.cell? ⟨g, 0, none⟩ = some (.int .i64 k) ∧ w'.cell? ⟨g, 1, none⟩ = some (.string S) ∧ ((cnt = 2 ∧ k = 1 ∧ S.data.toList = L) ↔ nameB L = true) := by
 obtain ⟨h1, k, S, a, rest, rfl, hi⟩ := hf
 rcases h.2 with ⟨_, h0⟩ | ⟨g, cap, cur, rfl, _, hh, _, _, _, ht⟩
 · omega
 · refine ⟨g, cap, k, S, rfl, ?_, ?_, hi⟩
   · rw [cell_of_row w' g 0 _ _ _ hh]
     have e : (cur.toList.take (cnt * 3))[0]? = some (.int .i64 k) := by rw [ht]; rfl
     rw [List.getElem?_take_of_lt (by omega)] at e
     simpa using e
   · rw [cell_of_row w' g 1 _ _ _ hh]
     have e : (cur.toList.take (cnt * 3))[1]? = some (.string S) := by rw [ht]; rfl
     rw [List.getElem?_take_of_lt (by omega)] at e
     simpa using e
theorem list_inj {S s : ByteArray} (h : S.data.toList = s.data.toList) : S = s := by
 cases S; cases s; simp at h; rw [h]
theorem name_ways {cnt : Nat} {k : Int} {S s : ByteArray} {b : Bool} (h : (cnt = 2 ∧ k = 1 ∧ S.data.toList = s.data.toList) ↔ b = true) :
   (b = true ∧ cnt = 2 ∧ k = 1 ∧ S = s) ∨ (b = false ∧ (((cnt : Int) == 2) = false ∨ (cnt = 2 ∧ (k == 1) = false) ∨ (cnt = 2 ∧ k = 1 ∧ (S.toList == s.toList) = false))) := by
 cases b with
 | true =>
   obtain ⟨h1, h2, h3⟩ := h.2 rfl
   exact Or.inl ⟨rfl, h1, h2, list_inj h3⟩
 | false =>
   refine Or.inr ⟨rfl, ?_⟩
   by_cases h1 : cnt = 2
   · by_cases h2 : k = 1
     · refine Or.inr (Or.inr ⟨h1, h2, ?_⟩)
       rw [beq_eq_false_iff_ne, ByteArray.toList_eq, ByteArray.toList_eq]
       intro h3
       exact absurd (h.1 ⟨h1, h2, h3⟩) (by decide)
     · exact Or.inr (Or.inl ⟨h1, beq_eq_false_iff_ne.2 h2⟩)
   · refine Or.inl ?_
     rw [beq_eq_false_iff_ne]
     omega
set_option maxRecDepth 100000 in
set_option maxHeartbeats 8000000 in
theorem name_any (m : Int) (t : Nat → Nat) (ht : ∀ j, j < 23 → finD (Ieee.double.read (t j)) = true) (s : ByteArray) (w : World) (hG : Glob m t w) : Calls Tryz.prog 28 #[.string s] w (RetV (.bool (nameB s.data.toList)) w) := by
 have HL := Lib.hid (lex_all m t ht s w hG)
 clear hG ht
 go_enter Tryz.func28, Tryz.ntmps28
 go_wp2_with (first
   | (go_at_call 59; (with_reducible refine HL.out.mono ?_); rintro e w2 ⟨v, p, er, rfl, hB, hq⟩; have HB := Lib.hid hB; have HQ := Lib.hid hq; clear hB hq
      rcases (show (∃ hne : (er == 0) = false, nameB s.data.toList = false) ∨ (er = 0 ∧ ∃ cnt g cap k S, v = .slice (some ⟨g, 0, none⟩) cnt cap ∧ w2.cell? ⟨g, 0, none⟩ = some (.int .i64 k) ∧ w2.cell? ⟨g, 1, none⟩ = some (.string S) ∧ ((nameB s.data.toList = true ∧ cnt = 2 ∧ k = 1 ∧ S = s) ∨ (nameB s.data.toList = false ∧ (((cnt : Int) == 2) = false ∨ (cnt = 2 ∧ (k == 1) = false) ∨ (cnt = 2 ∧ k = 1 ∧ (S.toList == s.toList) = false))))) from by
         rcases HQ.out with ⟨h1, h2⟩ | ⟨h1, cnt, xs, h2, h3⟩
         · exact Or.inl ⟨beq_eq_false_iff_ne.2 h1, h2⟩
         · obtain ⟨g, cap, k, S, e1, e2, e3, e4⟩ := lexfin_cells h2 h3
           exact Or.inr ⟨h1, cnt, g, cap, k, S, e1, e2, e3, name_ways e4⟩) with ⟨he, hn⟩ | ⟨rfl, cnt, g, cap, k, S, rfl, c0, c1, ⟨hn, rfl, rfl, rfl⟩ | ⟨hn, hc | ⟨rfl, hc⟩ | ⟨rfl, rfl, hc⟩⟩⟩)
   | fail)
 all_goals
   go_ret
   exact ⟨by rw [hn]; rfl, HB.out⟩
set_option maxRecDepth 100000 in
set_option maxHeartbeats 8000000 in
theorem rname_any (m : Int) (t : Nat → Nat) (ht : ∀ j, j < 23 → finD (Ieee.double.read (t j)) = true) (s : ByteArray) (w : World) (hG : Glob m t w) : Calls Tryz.prog 47 #[.string s] w (RetV (.bool (nameB s.data.toList)) w) := by
 have HL := Lib.hid (rlex_all m t ht s w hG)
 clear hG ht
 go_enter Tryz.func47, Tryz.ntmps47
 go_wp2_with (first
   | (go_at_call 70; (with_reducible refine HL.out.mono ?_); rintro e w2 ⟨v, p, er, rfl, hB, hq⟩; have HB := Lib.hid hB; have HQ := Lib.hid hq; clear hB hq
      rcases (show (∃ hne : (er == 0) = false, nameB s.data.toList = false) ∨ (er = 0 ∧ ∃ cnt g cap k S, v = .slice (some ⟨g, 0, none⟩) cnt cap ∧ w2.cell? ⟨g, 0, none⟩ = some (.int .i64 k) ∧ w2.cell? ⟨g, 1, none⟩ = some (.string S) ∧ ((nameB s.data.toList = true ∧ cnt = 2 ∧ k = 1 ∧ S = s) ∨ (nameB s.data.toList = false ∧ (((cnt : Int) == 2) = false ∨ (cnt = 2 ∧ (k == 1) = false) ∨ (cnt = 2 ∧ k = 1 ∧ (S.toList == s.toList) = false))))) from by
         rcases HQ.out with ⟨h1, h2⟩ | ⟨h1, cnt, xs, h2, h3⟩
         · exact Or.inl ⟨beq_eq_false_iff_ne.2 h1, h2⟩
         · obtain ⟨g, cap, k, S, e1, e2, e3, e4⟩ := lexfin_cells h2 h3
           exact Or.inr ⟨h1, cnt, g, cap, k, S, e1, e2, e3, name_ways e4⟩) with ⟨he, hn⟩ | ⟨rfl, cnt, g, cap, k, S, rfl, c0, c1, ⟨hn, rfl, rfl, rfl⟩ | ⟨hn, hc | ⟨rfl, hc⟩ | ⟨rfl, rfl, hc⟩⟩⟩)
   | fail)
 all_goals
   go_ret
   exact ⟨by rw [hn]; rfl, HB.out⟩
end Go.Proofs.YtcgpflkaejbkhaaGreatDoor
namespace Go.Proofs.YtcgpflkaejbkhaaGreatDoor
open Go.RowKit

def CellsAt (w : World) (K : Nat) (A : Option Addr) (ls : List (List Value)) : Prop := ls.length ≤ maxLen ∧ (ls = [] ∨ ∃ b off, A = some ⟨b, off, none⟩ ∧ b < w.heap.size ∧ ∀ (j : Nat) (x : List Value), ls[j]? = some x → x.length = K ∧ ∀ (i : Nat) (v : Value), x[i]? = some v → w.cell? ⟨b, off + j * K + i, none⟩ = some v)
theorem CellsAt.keep {w w' : World} (hB : Below w.heap.size w w') {K : Nat} {A : Option Addr} {ls : List (List Value)} (h : CellsAt w K A ls) : CellsAt w' K A ls :=
 ⟨h.1, h.2.imp id fun ⟨b, off, h1, h2, h3⟩ => ⟨b, off, h1, Nat.lt_of_lt_of_le h2 hB.size, fun j x hx => ⟨(h3 j x hx).1, fun i v hv => (hB.cell (p := ⟨b, off + j * K + i, none⟩) h2).trans ((h3 j x hx).2 i v hv)⟩⟩⟩
theorem CellsAt.nil_at (w : World) (K : Nat) (A : Option Addr) : CellsAt w K A [] := ⟨Nat.zero_le _, Or.inl rfl⟩
def FirstIs (P : Nat → Bool) (n : Nat) (r : Int) : Prop := (∃ k : Nat, k < n ∧ r = k ∧ P k = true ∧ ∀ j, j < k → P j = false) ∨ (r = -1 ∧ ∀ j, j < n → P j = false)
def FirstP (P : Nat → Bool) (n : Nat) (w : World) (e : Ending) (w' : World) : Prop := ∃ r : Int, e = .returned (.int .i64 r) ∧ FirstIs P n r ∧ Below w.heap.size w w'

theorem list5 {x : List Value} (h : x.length = 5) : ∃ v0 v1 v2 v3 v4, x = [v0, v1, v2, v3, v4] := by
 match x, h with
 | [v0, v1, v2, v3, v4], _ => exact ⟨v0, v1, v2, v3, v4, rfl⟩
set_option maxHeartbeats 2000000 in
theorem index_tab (P : Nat → Bool) (g : Nat) (lb : Array Value) (eg : ∀ args w, (callFunc g args).run Tryz.prog w = .ok (.enter g args) w) (A : Option Addr) (c : Nat) (ls : List (List Value)) (w : World) (hc : CellsAt w 5 A ls)
   (hp : ∀ (j : Nat) (x : List Value), ls[j]? = some x → ∀ W, Below w.heap.size w W → Calls Tryz.prog g (#[.agg x.toArray] ++ lb) W (RetV (.bool (P j)) W)) :
   Calls Tryz.prog 38 #[.slice A ls.length c, .func (.func g) #[] lb] w (FirstP P ls.length w) := by
 obtain ⟨n, hn⟩ : ∃ n, n = ls.length := ⟨_, rfl⟩
 have hs : n ≤ maxLen := by rw [hn]; exact hc.1
 unfold maxLen at hs
 have H := Lib.hid hc.2
 have HP := Lib.hid hp
 rw [← hn]
 have HN := Lib.hid hn
 clear hc hp hn
 go_enter Tryz.func38, Tryz.ntmps38
 go_wp2_with fail
 go_loopw [8] (fun i wr => ∃ k : Nat, k ≤ n ∧ i = .int .i64 k ∧ Below w.heap.size w wr ∧ Hid (∀ j, j < k → P j = false)) (fun i _ => n - (intOf i).toNat)
 case atStart => exact ⟨0, Nat.zero_le _, rfl, Below.refl _ _, Lib.hid (fun j hj => absurd hj (Nat.not_lt_zero _))⟩
 case round =>
   obtain ⟨k, hk, rfl, hB, HC⟩ := hrel
   obtain ⟨wo, rfl⟩ : ∃ wo : World, wo = wr := ⟨_, rfl⟩
   have HB := Lib.hid hB
   clear hB
   by_cases hlt : k < n
   · rcases H.out with h0 | ⟨b, off, rfl, hbl, hc⟩
     · exfalso; have := HN.out; rw [h0] at this; simp at this; omega
     · obtain ⟨x, hx⟩ : ∃ x, ls[k]? = some x := ⟨_, List.getElem?_eq_getElem (by have := HN.out; omega)⟩
       have HK := hc k x hx
       obtain ⟨v0, v1, v2, v3, v4, rfl⟩ := list5 HK.1
       have hcc : ∀ (i : Nat) (v : Value), [v0, v1, v2, v3, v4][i]? = some v → wo.cell? ⟨b, off + k * 5 + i, none⟩ = some v := fun i v hi => (HB.out.cell (p := ⟨b, off + k * 5 + i, none⟩) hbl).trans (HK.2 i v hi)
       have k0 : wo.cell? ⟨b, off + k * 5, none⟩ = some v0 := hcc 0 v0 rfl
       have k1 : wo.cell? ⟨b, off + k * 5 + 1, none⟩ = some v1 := hcc 1 v1 rfl
       have k2 : wo.cell? ⟨b, off + k * 5 + 2, none⟩ = some v2 := hcc 2 v2 rfl
       have k3 : wo.cell? ⟨b, off + k * 5 + 3, none⟩ = some v3 := hcc 3 v3 rfl
       have k4 : wo.cell? ⟨b, off + k * 5 + 4, none⟩ = some v4 := hcc 4 v4 rfl
       clear hcc HK
       have HCC := Lib.hid (HP.out k _ hx wo HB.out)
       clear hx hc
       cases hq : P k with
       | true =>
         rw [hq] at HCC
         have HR := Lib.hid (show FirstIs P n k from Or.inl ⟨k, hlt, rfl, hq, HC.out⟩)
         clear hq
         go_wp2_with (first
           | (go_at_fn g; (with_reducible refine HCC.out.mono ?_); rintro e w2 ⟨rfl, hB2⟩)
           | fail)
         go_ret
         exact ⟨k, rfl, HR.out, HB.out.trans (hB2.mono HB.out.size)⟩
       | false =>
         rw [hq] at HCC
         have HD := Lib.hid (show ∀ j, j < k + 1 → P j = false from fun j hj => by
           by_cases e : j = k
           · rw [e]; exact hq
           · exact HC.out j (by omega))
         clear hq
         go_wp2_with (first
           | (go_at_fn g; (with_reducible refine HCC.out.mono ?_); rintro e w2 ⟨rfl, hB2⟩)
           | fail)
         go_roundw
         case rel => exact ⟨k + 1, by omega, by go_num, HB.out.trans (hB2.mono HB.out.size), HD⟩
         case measure => simp [intOf] <;> omega
   · have HR := Lib.hid (show FirstIs P n (-1) from Or.inr ⟨rfl, fun j hj => HC.out j (by omega)⟩)
     go_wp2_with fail
     go_ret
     exact ⟨-1, rfl, HR.out, HB.out⟩
theorem list3 {x : List Value} (h : x.length = 3) : ∃ v0 v1 v2, x = [v0, v1, v2] := by
 match x, h with
 | [v0, v1, v2], _ => exact ⟨v0, v1, v2, rfl⟩
set_option maxHeartbeats 2000000 in
theorem index_col (P : Nat → Bool) (g : Nat) (lb : Array Value) (eg : ∀ args w, (callFunc g args).run Tryz.prog w = .ok (.enter g args) w) (A : Option Addr) (c : Nat) (ls : List (List Value)) (w : World) (hc : CellsAt w 3 A ls)
   (hp : ∀ (j : Nat) (x : List Value), ls[j]? = some x → ∀ W, Below w.heap.size w W → Calls Tryz.prog g (#[.agg x.toArray] ++ lb) W (RetV (.bool (P j)) W)) :
   Calls Tryz.prog 43 #[.slice A ls.length c, .func (.func g) #[] lb] w (FirstP P ls.length w) := by
 obtain ⟨n, hn⟩ : ∃ n, n = ls.length := ⟨_, rfl⟩
 have hs : n ≤ maxLen := by rw [hn]; exact hc.1
 unfold maxLen at hs
 have H := Lib.hid hc.2
 have HP := Lib.hid hp
 rw [← hn]
 have HN := Lib.hid hn
 clear hc hp hn
 go_enter Tryz.func43, Tryz.ntmps43
 go_wp2_with fail
 go_loopw [8] (fun i wr => ∃ k : Nat, k ≤ n ∧ i = .int .i64 k ∧ Below w.heap.size w wr ∧ Hid (∀ j, j < k → P j = false)) (fun i _ => n - (intOf i).toNat)
 case atStart => exact ⟨0, Nat.zero_le _, rfl, Below.refl _ _, Lib.hid (fun j hj => absurd hj (Nat.not_lt_zero _))⟩
 case round =>
   obtain ⟨k, hk, rfl, hB, HC⟩ := hrel
   obtain ⟨wo, rfl⟩ : ∃ wo : World, wo = wr := ⟨_, rfl⟩
   have HB := Lib.hid hB
   clear hB
   by_cases hlt : k < n
   · rcases H.out with h0 | ⟨b, off, rfl, hbl, hc⟩
     · exfalso; have := HN.out; rw [h0] at this; simp at this; omega
     · obtain ⟨x, hx⟩ : ∃ x, ls[k]? = some x := ⟨_, List.getElem?_eq_getElem (by have := HN.out; omega)⟩
       have HK := hc k x hx
       obtain ⟨v0, v1, v2, rfl⟩ := list3 HK.1
       have hcc : ∀ (i : Nat) (v : Value), [v0, v1, v2][i]? = some v → wo.cell? ⟨b, off + k * 3 + i, none⟩ = some v := fun i v hi => (HB.out.cell (p := ⟨b, off + k * 3 + i, none⟩) hbl).trans (HK.2 i v hi)
       have k0 : wo.cell? ⟨b, off + k * 3, none⟩ = some v0 := hcc 0 v0 rfl
       have k1 : wo.cell? ⟨b, off + k * 3 + 1, none⟩ = some v1 := hcc 1 v1 rfl
       have k2 : wo.cell? ⟨b, off + k * 3 + 2, none⟩ = some v2 := hcc 2 v2 rfl
       clear hcc HK
       have HCC := Lib.hid (HP.out k _ hx wo HB.out)
       clear hx hc
       cases hq : P k with
       | true =>
         rw [hq] at HCC
         have HR := Lib.hid (show FirstIs P n k from Or.inl ⟨k, hlt, rfl, hq, HC.out⟩)
         clear hq
         go_wp2_with (first
           | (go_at_fn g; (with_reducible refine HCC.out.mono ?_); rintro e w2 ⟨rfl, hB2⟩)
           | fail)
         go_ret
         exact ⟨k, rfl, HR.out, HB.out.trans (hB2.mono HB.out.size)⟩
       | false =>
         rw [hq] at HCC
         have HD := Lib.hid (show ∀ j, j < k + 1 → P j = false from fun j hj => by
           by_cases e : j = k
           · rw [e]; exact hq
           · exact HC.out j (by omega))
         clear hq
         go_wp2_with (first
           | (go_at_fn g; (with_reducible refine HCC.out.mono ?_); rintro e w2 ⟨rfl, hB2⟩)
           | fail)
         go_roundw
         case rel => exact ⟨k + 1, by omega, by go_num, HB.out.trans (hB2.mono HB.out.size), HD⟩
         case measure => simp [intOf] <;> omega
   · have HR := Lib.hid (show FirstIs P n (-1) from Or.inr ⟨rfl, fun j hj => HC.out j (by omega)⟩)
     go_wp2_with fail
     go_ret
     exact ⟨-1, rfl, HR.out, HB.out⟩
structure Tab where
 name : ByteArray
 ca : Option Addr
 cn : Nat
 cc : Nat
 root : Int
 next : Int
 rows : Int
def tabL (t : Tab) : List Value := [.string t.name, .slice t.ca t.cn t.cc, .int .i64 t.root, .int .i64 t.next, .int .i64 t.rows]
def sameN (a b : ByteArray) : Bool := a.toList == b.toList
theorem sameN_iff {a b : ByteArray} : sameN a b = true ↔ a = b := by
 unfold sameN
 rw [beq_iff_eq, ByteArray.toList_eq, ByteArray.toList_eq]
 constructor
 · intro h; cases a; cases b; simp at h; rw [h]
 · intro h; rw [h]
set_option maxRecDepth 100000 in
set_option maxHeartbeats 2000000 in
theorem same_tab (t : Tab) (b : Nat) (nm : ByteArray) (W : World) (h : W.cell? ⟨b, 0, none⟩ = some (.string nm)) : Calls Tryz.prog 39 (#[.agg (tabL t).toArray] ++ #[.pointer (some ⟨b, 0, none⟩)]) W (RetV (.bool (sameN t.name nm)) W) := by
 obtain ⟨tn, ta, tl, tc, tr, tx, ts⟩ := t
 show Calls Tryz.prog 39 #[.agg #[.string tn, .slice ta tl tc, .int .i64 tr, .int .i64 tx, .int .i64 ts], .pointer (some ⟨b, 0, none⟩)] W (RetV (.bool (sameN tn nm)) W)
 have HB := Lib.hid (show (tn.toList == nm.toList) = sameN tn nm from rfl)
 have h2 := cell_kept h (below1 W (.cells #[.string tn, .slice ta tl tc, .int .i64 tr, .int .i64 tx, .int .i64 ts] 25))
 go_enter Tryz.func39, Tryz.ntmps39
 go_wp2_with fail
 go_ret
 exact ⟨ret_b HB.out, below1 W _⟩
def TabsAt (w : World) (A : Option Addr) (l : List Tab) : Prop := CellsAt w 5 A (l.map tabL)
def nameAt (l : List Tab) (nm : ByteArray) (j : Nat) : Bool := match l[j]? with | some t => sameN t.name nm | none => false
set_option maxRecDepth 100000 in
set_option maxHeartbeats 2000000 in
theorem table_any (A : Option Addr) (c : Nat) (l : List Tab) (ia : Option Addr) (il ic : Nat) (nm : ByteArray) (w : World) (h : TabsAt w A l) : Calls Tryz.prog 12 #[.agg #[.slice A l.length c, .slice ia il ic], .string nm] w (FirstP (nameAt l nm) l.length w) := by
 have HI := Lib.hid (show ∀ (b : Nat) (W : World), Below w.heap.size w W → W.cell? ⟨b, 0, none⟩ = some (.string nm) → Calls Tryz.prog 38 #[.slice A l.length c, .func (.func 39) #[] #[.pointer (some ⟨b, 0, none⟩)]] W (FirstP (nameAt l nm) l.length W) from fun b W hB hb => by
   have h1 := index_tab (nameAt l nm) 39 #[.pointer (some ⟨b, 0, none⟩)] (Go.Proofs.enters_of Tryz.func39 (by kernel_rfl) rfl) A c (l.map tabL) W (CellsAt.keep hB h) (fun j x hx W2 hB2 => by
     rw [List.getElem?_map, Option.map_eq_some_iff] at hx
     obtain ⟨t, ht, rfl⟩ := hx
     have e : nameAt l nm j = sameN t.name nm := by unfold nameAt; rw [ht]
     rw [e]
     exact same_tab t b nm W2 (cell_kept hb hB2))
   rw [List.length_map] at h1
   exact h1)
 clear h
 go_enter Tryz.func12, Tryz.ntmps12
 have HW := Lib.hid (show Below w.heap.size w ((w.alloc (.cells #[.slice A l.length c, .slice ia il ic] 36)).alloc (.cells #[.string nm] 9)) from (below1 w _).alloc (by simp) _)
 have h0 := heap_alloc_new (w.alloc (.cells #[.slice A l.length c, .slice ia il ic] 36)) (.cells #[.string nm] 9)
 rw [World.size_alloc] at h0
 have HC := Lib.hid (cell_of_row _ _ 0 _ _ _ h0)
 clear h0
 go_wp2_with (first
   | (go_at_call 38; (with_reducible refine (HI.out _ _ HW.out HC.out).mono ?_); rintro e w2 ⟨r, rfl, hr, hB⟩; have HR := Lib.hid hr; have HB := Lib.hid (HW.out.trans (hB.mono HW.out.size)); clear hr hB)
   | fail)
 go_ret
 exact ⟨r, rfl, HR.out, HB.out⟩
end Go.Proofs.YtcgpflkaejbkhaaGreatDoor
namespace Go.Proofs.YtcgpflkaejbkhaaGreatDoor
open Go.RowKit

structure Col where
 name : ByteArray
 ty : Int
 nn : Bool
def colL (c : Col) : List Value := [.string c.name, .int .i64 c.ty, .bool c.nn]
def ColsAt (w : World) (A : Option Addr) (l : List Col) : Prop := CellsAt w 3 A (l.map colL)
def cnameAt (l : List Col) (nm : ByteArray) (j : Nat) : Bool := match l[j]? with | some t => sameN t.name nm | none => false
theorem CellsAt.take {w : World} {K : Nat} {A : Option Addr} {ls : List (List Value)} (h : CellsAt w K A ls) (n : Nat) : CellsAt w K A (ls.take n) := by
 refine ⟨Nat.le_trans (by rw [List.length_take]; exact Nat.min_le_right _ _) h.1, ?_⟩
 rcases h.2 with h0 | ⟨b, off, h1, h2, h3⟩
 · left; rw [h0]; simp
 · refine Or.inr ⟨b, off, h1, h2, fun j x hx => h3 j x ?_⟩
   rcases Nat.lt_or_ge j n with g | g
   · rwa [List.getElem?_take_of_lt g] at hx
   · rw [List.getElem?_take_eq_none g] at hx; cases hx
set_option maxRecDepth 100000 in
set_option maxHeartbeats 2000000 in
theorem same_col (t : Col) (b : Nat) (nm : ByteArray) (W : World) (h : W.cell? ⟨b, 0, none⟩ = some (.string nm)) : Calls Tryz.prog 46 (#[.agg (colL t).toArray] ++ #[.pointer (some ⟨b, 0, none⟩)]) W (RetV (.bool (sameN t.name nm)) W) := by
 obtain ⟨tn, ty, nn⟩ := t
 show Calls Tryz.prog 46 #[.agg #[.string tn, .int .i64 ty, .bool nn], .pointer (some ⟨b, 0, none⟩)] W (RetV (.bool (sameN tn nm)) W)
 have HB := Lib.hid (show (tn.toList == nm.toList) = sameN tn nm from rfl)
 have h2 := cell_kept h (below1 W (.cells #[.string tn, .int .i64 ty, .bool nn] 42))
 go_enter Tryz.func46, Tryz.ntmps46
 go_wp2_with fail
 go_ret
 exact ⟨ret_b HB.out, below1 W _⟩
set_option maxRecDepth 100000 in
set_option maxHeartbeats 2000000 in
theorem contains_col (A : Option Addr) (c : Nat) (l : List Col) (b : Nat) (nm : ByteArray) (w : World) (h : ColsAt w A l) (hb : w.cell? ⟨b, 0, none⟩ = some (.string nm)) : Calls Tryz.prog 45 #[.slice A l.length c, .func (.func 46) #[] #[.pointer (some ⟨b, 0, none⟩)]] w (RetV (.bool (l.any fun t => sameN t.name nm)) w) := by
 have HI := Lib.hid (show Calls Tryz.prog 43 #[.slice A l.length c, .func (.func 46) #[] #[.pointer (some ⟨b, 0, none⟩)]] w (FirstP (cnameAt l nm) l.length w) from by
   have h1 := index_col (cnameAt l nm) 46 #[.pointer (some ⟨b, 0, none⟩)] (Go.Proofs.enters_of Tryz.func46 (by kernel_rfl) rfl) A c (l.map colL) w h (fun j x hx W2 hB2 => by
     rw [List.getElem?_map, Option.map_eq_some_iff] at hx
     obtain ⟨t, ht, rfl⟩ := hx
     have e : cnameAt l nm j = sameN t.name nm := by unfold cnameAt; rw [ht]
     rw [e]
     exact same_col t b nm W2 (cell_kept hb hB2))
   rw [List.length_map] at h1
   exact h1)
 have HX := Lib.hid (show ∀ r : Int, FirstIs (cnameAt l nm) l.length r → decide (0 ≤ r) = l.any fun t => sameN t.name nm from fun r hr => by
   rcases hr with ⟨k, hk, rfl, hp, _⟩ | ⟨rfl, hp⟩
   · have : (l.any fun t => sameN t.name nm) = true := by
       rw [List.any_eq_true]
       refine ⟨l[k], List.getElem_mem hk, ?_⟩
       unfold cnameAt at hp
       rwa [List.getElem?_eq_getElem hk] at hp
     rw [this]; simp
   · have : (l.any fun t => sameN t.name nm) = false := by
       rw [List.any_eq_false]
       intro t ht
       obtain ⟨k, hk, rfl⟩ := List.mem_iff_getElem.1 ht
       have h := hp k hk
       unfold cnameAt at h
       rw [List.getElem?_eq_getElem hk] at h
       simpa using h
     rw [this]; rfl)
 generalize (l.any fun t => sameN t.name nm) = R at HX ⊢
 clear h
 go_enter Tryz.func45, Tryz.ntmps45
 go_wp2_with (first
   | (go_at_call 43; (with_reducible refine HI.out.mono ?_); rintro e w2 ⟨r, rfl, hr, hB⟩; have HR := Lib.hid hr; have HB := Lib.hid hB; clear hr hB)
   | fail)
 go_ret
 exact ⟨ret_b (HX.out r HR.out), HB.out⟩
def colBad (c : Col) : Bool := !nameB c.name.data.toList || decide (c.ty < 1) || decide (3 < c.ty)
def colsErr (l : List Col) : Nat → Nat → Int
 | 0, _ => 0
 | f + 1, k => match l[k]? with
   | none => 0
   | some c => if colBad c then 7 else if (l.take k).any (fun t => sameN t.name c.name) then 8 else colsErr l f (k + 1)
def colsR (l : List Col) : Int := if l = [] then 7 else if 6 < l.length then 11 else colsErr l (l.length + 1) 0
set_option maxRecDepth 100000 in
set_option maxHeartbeats 8000000 in
theorem columns_any (m : Int) (t : Nat → Nat) (ht : ∀ j, j < 23 → finD (Ieee.double.read (t j)) = true) (A : Option Addr) (c : Nat) (l : List Col) (w : World) (hG : Glob m t w) (h : ColsAt w A l) (hc : l.length ≤ c) : Calls Tryz.prog 20 #[.slice A l.length c] w (RetV (.int .i64 (colsR l)) w) := by
 have HG := Lib.hid hG
 have HNA := Lib.hid (fun s W g => name_any m t ht s W g)
 have HA := Lib.hid h
 have hlen := h.1
 unfold maxLen at hlen
 rw [List.length_map] at hlen
 clear hG ht h
 by_cases h0 : l.length = 0
 · have HE := Lib.hid (show colsR l = 7 by unfold colsR; rw [if_pos (List.length_eq_zero_iff.1 h0)])
   generalize colsR l = R at HE ⊢
   have hl : ((l.length : Nat) : Int) = 0 := by omega
   go_enter Tryz.func20, Tryz.ntmps20
   go_wp2_with fail
   go_ret
   exact ⟨by rw [HE.out]; rfl, Below.refl _ _⟩
 · have hl : (((l.length : Nat) : Int) == 0) = false := by rw [beq_eq_false_iff_ne]; omega
   by_cases h6 : 6 < l.length
   · have HE := Lib.hid (show colsR l = 11 by unfold colsR; rw [if_neg (fun h => h0 (by rw [h]; rfl)), if_pos h6])
     generalize colsR l = R at HE ⊢
     go_enter Tryz.func20, Tryz.ntmps20
     go_wp2_with fail
     go_ret
     exact ⟨by rw [HE.out]; rfl, Below.refl _ _⟩
   · have HE := Lib.hid (show colsR l = colsErr l (l.length + 1) 0 by unfold colsR; rw [if_neg (fun h => h0 (by rw [h]; rfl)), if_neg h6])
     generalize colsR l = R at HE ⊢
     obtain ⟨n, hn⟩ : ∃ n, n = l.length := ⟨_, rfl⟩
     have HN := Lib.hid hn
     rw [← hn] at HE hl hlen h0 h6 hc ⊢
     clear hn
     go_enter Tryz.func20, Tryz.ntmps20
     go_wp2_with fail
     go_loopw [13] (fun i wr => ∃ k : Nat, k ≤ n ∧ i = .int .i64 k ∧ Hid (Below w.heap.size w wr) ∧ Hid (R = colsErr l (n + 1 - k) k)) (fun i _ => n - (intOf i).toNat)
     case atStart => exact ⟨0, Nat.zero_le _, rfl, Lib.hid (Below.refl _ _), HE⟩
     case round =>
       obtain ⟨k, hk, rfl, HB, HR⟩ := hrel
       obtain ⟨wo, rfl⟩ : ∃ wo : World, wo = wr := ⟨_, rfl⟩
       by_cases hlt : k < n
       · obtain ⟨x, hx⟩ : ∃ x, l[k]? = some x := ⟨_, List.getElem?_eq_getElem (by have := HN.out; omega)⟩
         obtain ⟨b, off, rfl, hbl, hcells⟩ : ∃ b off, A = some ⟨b, off, none⟩ ∧ b < w.heap.size ∧ ∀ (i : Nat) (v : Value), (colL x)[i]? = some v → w.cell? ⟨b, off + k * 3 + i, none⟩ = some v := by
           rcases HA.out.2 with h0' | ⟨b, off, h1, h2, h3⟩
           · exfalso; have := HN.out; have := List.map_eq_nil_iff.1 h0'; subst this; simp at hx
           · exact ⟨b, off, h1, h2, (h3 k (colL x) (by rw [List.getElem?_map, hx]; rfl)).2⟩
         obtain ⟨xn, xt, xb⟩ := x
         have hcc : ∀ (i : Nat) (v : Value), [Value.string xn, .int .i64 xt, .bool xb][i]? = some v → wo.cell? ⟨b, off + k * 3 + i, none⟩ = some v := fun i v hi => (HB.out.cell (p := ⟨b, off + k * 3 + i, none⟩) hbl).trans (hcells i v hi)
         have k0 : wo.cell? ⟨b, off + k * 3, none⟩ = some (.string xn) := hcc 0 _ rfl
         have k1 : wo.cell? ⟨b, off + k * 3 + 1, none⟩ = some (.int .i64 xt) := hcc 1 _ rfl
         have k2 : wo.cell? ⟨b, off + k * 3 + 2, none⟩ = some (.bool xb) := hcc 2 _ rfl
         obtain ⟨nb, hnb⟩ : ∃ b, b = nameB xn.data.toList := ⟨_, rfl⟩
         have HNB := Lib.hid hnb
         have HNX := Lib.hid (HNA.out xn)
         rw [← hnb] at HNX
         have HST := Lib.hid (show R = if colBad ⟨xn, xt, xb⟩ then 7 else if (l.take k).any (fun t => sameN t.name xn) then 8 else colsErr l (n + 1 - (k + 1)) (k + 1) by
           rw [HR.out, show n + 1 - k = (n - k) + 1 by omega]
           conv => lhs; unfold colsErr
           rw [hx, show n + 1 - (k + 1) = n - k by omega])
         have HWA := Lib.hid (HB.out.alloc HB.out.size (.cells #[.string xn, .int .i64 xt, .bool xb] 42))
         have HQ := Lib.hid (heap_alloc_new wo (.cells #[.string xn, .int .i64 xt, .bool xb] 42))
         have hkc : k ≤ c := by omega
         have HTK := Lib.hid (show (l.take k).length = k by rw [List.length_take, ← HN.out]; omega)
         obtain ⟨cb, hcb⟩ : ∃ cb, cb = (l.take k).any (fun t => sameN t.name xn) := ⟨_, rfl⟩
         rw [← hcb] at HST
         have HCT := Lib.hid (show ∀ W, Below w.heap.size w W → W.cell? ⟨wo.heap.size, 0, none⟩ = some (.string xn) → Calls Tryz.prog 45 #[.slice (some ⟨b, off, none⟩) k c, .func (.func 46) #[] #[.pointer (some ⟨wo.heap.size, 0, none⟩)]] W (RetV (.bool cb) W) from fun W hB hb => by
           have h1 := contains_col (some ⟨b, off, none⟩) c (l.take k) wo.heap.size xn W (by unfold ColsAt; rw [List.map_take]; exact (CellsAt.keep hB HA.out).take k) hb
           rw [HTK.out, ← hcb] at h1
           exact h1)
         clear hx hcells hcc hnb hcb
         by_cases hbad : colBad ⟨xn, xt, xb⟩ = true
         · have HE0 := Lib.hid (show R = 7 by rw [HST.out, if_pos hbad])
           have hor : nb = false ∨ (nb = true ∧ xt < 1) ∨ (nb = true ∧ 1 ≤ xt ∧ 3 < xt) := by
             unfold colBad at hbad
             rw [show nameB xn.data.toList = nb from HNB.out.symm] at hbad
             simp only [Bool.or_eq_true, Bool.not_eq_true', decide_eq_true_iff] at hbad
             cases nb
             · exact Or.inl rfl
             · rcases hbad with (hbad | hbad) | hbad
               · cases hbad
               · exact Or.inr (Or.inl ⟨rfl, hbad⟩)
               · exact Or.inr (Or.inr ⟨rfl, by omega, hbad⟩)
           clear hbad
           rcases hor with rfl | ⟨rfl, h1⟩ | ⟨rfl, h1, h2⟩
           · go_wp2_with (first
               | (go_at_call 28; (with_reducible refine (HNX.out _ (HG.out.keep HWA.out)).mono ?_); rintro e w5 ⟨rfl, hB5⟩; have HW5 := Lib.hid (HWA.out.trans (hB5.mono HWA.out.size)); have hq := (hB5.block wo.heap.size (by simp)).trans HQ.out; have r0 := cell_of_row _ _ 0 _ _ _ hq; have r1 := cell_of_row _ _ 1 _ _ _ hq; have HR0 := Lib.hid (show w5.cell? ⟨wo.heap.size, 0, none⟩ = some (.string xn) from r0); clear hB5 hq)
               | fail)
             go_ret
             exact ⟨by rw [HE0.out]; rfl, HW5.out⟩
           · have h1' : (xt < 1) = True := eq_true h1
             go_wp2_with (first
               | (go_at_call 28; (with_reducible refine (HNX.out _ (HG.out.keep HWA.out)).mono ?_); rintro e w5 ⟨rfl, hB5⟩; have HW5 := Lib.hid (HWA.out.trans (hB5.mono HWA.out.size)); have hq := (hB5.block wo.heap.size (by simp)).trans HQ.out; have r0 := cell_of_row _ _ 0 _ _ _ hq; have r1 := cell_of_row _ _ 1 _ _ _ hq; have HR0 := Lib.hid (show w5.cell? ⟨wo.heap.size, 0, none⟩ = some (.string xn) from r0); clear hB5 hq)
               | fail)
             go_ret
             exact ⟨by rw [HE0.out]; rfl, HW5.out⟩
           · have h1' : (xt < 1) = False := eq_false (by omega)
             have h2' : (3 < xt) = True := eq_true h2
             go_wp2_with (first
               | (go_at_call 28; (with_reducible refine (HNX.out _ (HG.out.keep HWA.out)).mono ?_); rintro e w5 ⟨rfl, hB5⟩; have HW5 := Lib.hid (HWA.out.trans (hB5.mono HWA.out.size)); have hq := (hB5.block wo.heap.size (by simp)).trans HQ.out; have r0 := cell_of_row _ _ 0 _ _ _ hq; have r1 := cell_of_row _ _ 1 _ _ _ hq; have HR0 := Lib.hid (show w5.cell? ⟨wo.heap.size, 0, none⟩ = some (.string xn) from r0); clear hB5 hq)
               | fail)
             go_ret
             exact ⟨by rw [HE0.out]; rfl, HW5.out⟩
         · have hor : nb = true ∧ (xt < 1) = False ∧ (3 < xt) = False := by
             unfold colBad at hbad
             rw [show nameB xn.data.toList = nb from HNB.out.symm] at hbad
             simp only [Bool.or_eq_true, Bool.not_eq_true', decide_eq_true_iff] at hbad
             cases nb
             · exact absurd (Or.inl (Or.inl rfl)) hbad
             · exact ⟨rfl, eq_false (fun h => hbad (Or.inl (Or.inr h))), eq_false (fun h => hbad (Or.inr h))⟩
           obtain ⟨rfl, h1', h2'⟩ := hor
           cases cb with
           | true =>
             have HE0 := Lib.hid (show R = 8 by rw [HST.out, if_neg hbad, if_pos rfl])
             clear hbad
             go_wp2_with (first
               | (go_at_call 28; (with_reducible refine (HNX.out _ (HG.out.keep HWA.out)).mono ?_); rintro e w5 ⟨rfl, hB5⟩; have HW5 := Lib.hid (HWA.out.trans (hB5.mono HWA.out.size)); have hq := (hB5.block wo.heap.size (by simp)).trans HQ.out; have r0 := cell_of_row _ _ 0 _ _ _ hq; have r1 := cell_of_row _ _ 1 _ _ _ hq; have HR0 := Lib.hid (show w5.cell? ⟨wo.heap.size, 0, none⟩ = some (.string xn) from r0); clear hB5 hq)
               | (go_at_call 45; (with_reducible refine (HCT.out _ HW5.out HR0.out).mono ?_); rintro e w6 ⟨rfl, hB6⟩; have HW6 := Lib.hid (HW5.out.trans (hB6.mono HW5.out.size)); clear hB6)
               | fail)
             go_ret
             exact ⟨by rw [HE0.out]; rfl, HW6.out⟩
           | false =>
             have HE0 := Lib.hid (show R = colsErr l (n + 1 - (k + 1)) (k + 1) by rw [HST.out, if_neg hbad, if_neg (by decide)])
             clear hbad
             go_wp2_with (first
               | (go_at_call 28; (with_reducible refine (HNX.out _ (HG.out.keep HWA.out)).mono ?_); rintro e w5 ⟨rfl, hB5⟩; have HW5 := Lib.hid (HWA.out.trans (hB5.mono HWA.out.size)); have hq := (hB5.block wo.heap.size (by simp)).trans HQ.out; have r0 := cell_of_row _ _ 0 _ _ _ hq; have r1 := cell_of_row _ _ 1 _ _ _ hq; have HR0 := Lib.hid (show w5.cell? ⟨wo.heap.size, 0, none⟩ = some (.string xn) from r0); clear hB5 hq)
               | (go_at_call 45; (with_reducible refine (HCT.out _ HW5.out HR0.out).mono ?_); rintro e w6 ⟨rfl, hB6⟩; have HW6 := Lib.hid (HW5.out.trans (hB6.mono HW5.out.size)); clear hB6)
               | fail)
             go_roundw
             case rel => exact ⟨k + 1, by omega, by go_num, HW6, HE0⟩
             case measure => simp [intOf] <;> omega
       · have HE0 := Lib.hid (show R = 0 by
           rw [HR.out, show n + 1 - k = (n - k) + 1 by omega]
           unfold colsErr
           rw [List.getElem?_eq_none (by have := HN.out; omega)])
         go_wp2_with fail
         go_ret
         exact ⟨by rw [HE0.out]; rfl, HB.out⟩
end Go.Proofs.YtcgpflkaejbkhaaGreatDoor
