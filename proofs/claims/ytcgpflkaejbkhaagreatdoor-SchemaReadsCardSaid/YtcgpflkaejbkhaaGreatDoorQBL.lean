/- Entries handed in. -/
import Derived.Test.YtcgpflkaejbkhaaGreatDoorQBH
import Derived.Test.YtcgpflkaejbkhaaGreatDoorQBC
import Derived.Lib.BufferRead
import Derived.Test.YtcgpflkaejbkhaaGreatDoorQBD
import Derived.Test.YtcgpflkaejbkhaaGreatDoorQBI
namespace Go.Proofs.YtcgpflkaejbkhaaGreatDoor
open Go.RowKit

structure EntI where
 ka : Option Addr
 kc : Nat
 key : List UInt8
 va : Option Addr
 vc : Nat
 val : List UInt8
def eiL (e : EntI) : List Value := [.slice e.ka e.key.length e.kc, .slice e.va e.val.length e.vc]
def eiP (e : EntI) : List UInt8 × List UInt8 := (e.key, e.val)
structure EI (w : World) (e : EntI) : Prop where
 k : BtAt w e.ka e.key
 v : BtAt w e.va e.val
theorem EI.keep {w w' : World} {e : EntI} (h : EI w e) (hB : Below w.heap.size w w') : EI w' e := ⟨h.k.keep hB, h.v.keep hB⟩
def EntsAt (w : World) (A : Option Addr) (l : List EntI) : Prop := CellsAt w 2 A (l.map eiL) ∧ ∀ e ∈ l, EI w e
theorem EntsAt.keep {w w' : World} {A : Option Addr} {l : List EntI} (h : EntsAt w A l) (hB : Below w.heap.size w w') : EntsAt w' A l := ⟨h.1.keep hB, fun e he => (h.2 e he).keep hB⟩
theorem BtAt.conv {w : World} {A : Option Addr} {l : List UInt8} (h : BtAt w A l) (c : Nat) : (convert 55 9 (.slice A l.length c)).run Tryz.prog w = .ok (.string ⟨l.toArray⟩) w := by
 cases A with
 | none =>
   rcases h.2 with h0 | ⟨g, off, h1, _⟩
   · subst h0
     exact Go.Lib.run_convert_nil_bytes w 55 9 5 c Tryz.underlying55 Tryz.underlying5 Tryz.underlying9
   · cases h1
 | some a =>
   refine run_convert_bytes_back w 55 9 5 a c l Tryz.underlying55 Tryz.underlying5 Tryz.underlying9 (fun j hj => ?_)
   rcases h.2 with h0 | ⟨g, off, h1, h2, h3⟩
   · subst h0; simp at hj
   · cases h1
     rw [Addr.add_lit]
     exact h3 j _ (List.getElem?_eq_getElem hj)
theorem str_list (a : List UInt8) : (⟨a.toArray⟩ : ByteArray).toList = a := by rw [ByteArray.toList_eq]
set_option maxHeartbeats 2000000 in
theorem eq_ent (a b : EntI) (w : World) (ha : EI w a) (hb : EI w b) : Calls Tryz.prog 52 #[.agg (eiL a).toArray, .agg (eiL b).toArray] w (RetV (.bool (decide (eiP a = eiP b))) w) := by
 have c1 : ∀ O1 O2, (convert 55 9 (.slice a.ka a.key.length a.kc)).run Tryz.prog ((w.alloc O1).alloc O2) = .ok (.string ⟨a.key.toArray⟩) ((w.alloc O1).alloc O2) := fun O1 O2 => (ha.keep ((below1 w O1).alloc (by simp) O2)).k.conv _
 have c2 : ∀ O1 O2, (convert 55 9 (.slice a.va a.val.length a.vc)).run Tryz.prog ((w.alloc O1).alloc O2) = .ok (.string ⟨a.val.toArray⟩) ((w.alloc O1).alloc O2) := fun O1 O2 => (ha.keep ((below1 w O1).alloc (by simp) O2)).v.conv _
 have c3 : ∀ O1 O2, (convert 55 9 (.slice b.ka b.key.length b.kc)).run Tryz.prog ((w.alloc O1).alloc O2) = .ok (.string ⟨b.key.toArray⟩) ((w.alloc O1).alloc O2) := fun O1 O2 => (hb.keep ((below1 w O1).alloc (by simp) O2)).k.conv _
 have c4 : ∀ O1 O2, (convert 55 9 (.slice b.va b.val.length b.vc)).run Tryz.prog ((w.alloc O1).alloc O2) = .ok (.string ⟨b.val.toArray⟩) ((w.alloc O1).alloc O2) := fun O1 O2 => (hb.keep ((below1 w O1).alloc (by simp) O2)).v.conv _
 have t1 := str_list a.key
 have t2 := str_list a.val
 have t3 := str_list b.key
 have t4 := str_list b.val
 have hd : decide (eiP a = eiP b) = (decide (a.key = b.key) && decide (a.val = b.val)) := by
   by_cases h1 : a.key = b.key <;> by_cases h2 : a.val = b.val <;> simp [eiP, h1, h2]
 rw [hd]
 unfold eiL
 generalize a.key.length = n1 at c1 ⊢
 generalize a.val.length = n2 at c2 ⊢
 generalize b.key.length = n3 at c3 ⊢
 generalize b.val.length = n4 at c4 ⊢
 generalize (⟨a.key.toArray⟩ : ByteArray) = s1 at c1 t1
 generalize (⟨a.val.toArray⟩ : ByteArray) = s2 at c2 t2
 generalize (⟨b.key.toArray⟩ : ByteArray) = s3 at c3 t3
 generalize (⟨b.val.toArray⟩ : ByteArray) = s4 at c4 t4
 clear ha hb hd
 by_cases h1 : a.key = b.key
 · have e1 : (s1.toList == s3.toList) = true := by rw [t1, t3, h1]; exact beq_self_eq_true _
   have e1' : (s1.toList = s3.toList) = True := eq_true (by rw [t1, t3, h1])
   rw [decide_eq_true h1]
   by_cases h2 : a.val = b.val
   · have e2 : (s2.toList == s4.toList) = true := by rw [t2, t4, h2]; exact beq_self_eq_true _
     have e2' : (s2.toList = s4.toList) = True := eq_true (by rw [t2, t4, h2])
     rw [decide_eq_true h2]
     clear t1 t2 t3 t4 h1 h2
     go_enter Tryz.func52, Tryz.ntmps52
     go_wp2_with fail
     exact bodyPost_ret (v := .bool true) (by simp [results, Tryz.results52, go_sem]) rfl ⟨rfl, by go_grown⟩
   · have e2 : (s2.toList == s4.toList) = false := by rw [t2, t4]; exact beq_eq_false_iff_ne.2 h2
     have e2' : (s2.toList = s4.toList) = False := by rw [t2, t4]; exact eq_false h2
     rw [decide_eq_false h2]
     clear t1 t2 t3 t4 h1 h2
     go_enter Tryz.func52, Tryz.ntmps52
     go_wp2_with fail
     exact bodyPost_ret (v := .bool false) (by simp [results, Tryz.results52, go_sem]) rfl ⟨rfl, by go_grown⟩
 · have e1 : (s1.toList == s3.toList) = false := by rw [t1, t3]; exact beq_eq_false_iff_ne.2 h1
   have e1' : (s1.toList = s3.toList) = False := by rw [t1, t3]; exact eq_false h1
   rw [decide_eq_false h1]
   clear t1 t2 t3 t4 h1
   go_enter Tryz.func52, Tryz.ntmps52
   go_wp2_with fail
   exact bodyPost_ret (v := .bool false) (by simp [results, Tryz.results52, go_sem]) rfl ⟨rfl, by go_grown⟩
theorem ents_at {w : World} {A : Option Addr} {l : List EntI} (h : EntsAt w A l) {k : Nat} {e : EntI} (hk : l[k]? = some e) : ∃ b off, A = some ⟨b, off, none⟩ ∧ b < w.heap.size ∧ w.cell? ⟨b, off + k * 2, none⟩ = some (.slice e.ka e.key.length e.kc) ∧ w.cell? ⟨b, off + k * 2 + 1, none⟩ = some (.slice e.va e.val.length e.vc) := by
 have hk2 : (l.map eiL)[k]? = some (eiL e) := by rw [List.getElem?_map, hk]; rfl
 rcases h.1.2 with h0 | ⟨b, off, h1, h2, h3⟩
 · rw [h0] at hk2; cases hk2
 · exact ⟨b, off, h1, h2, (h3 k _ hk2).2 0 _ rfl, (h3 k _ hk2).2 1 _ rfl⟩
theorem take_eq {α : Type} {l m : List α} {k : Nat} {x y : α} (h : l.take k = m.take k) (hx : l[k]? = some x) (hy : m[k]? = some y) (e : x = y) : l.take (k + 1) = m.take (k + 1) := by
 rw [List.take_add_one, List.take_add_one, h, hx, hy, e]
set_option maxHeartbeats 2000000 in
theorem eq_ents (A : Option Addr) (c : Nat) (l : List EntI) (B : Option Addr) (d : Nat) (m : List EntI) (w : World) (hl : EntsAt w A l) (hm : EntsAt w B m) : Calls Tryz.prog 50 #[.slice A l.length c, .slice B m.length d, .func (.func 52) #[] #[]] w (RetV (.bool (decide (l.map eiP = m.map eiP))) w) := by
 have eg : ∀ args w, (callFunc 52 args).run Tryz.prog w = .ok (.enter 52 args) w := Go.Proofs.enters_of Tryz.func52 (by kernel_rfl) rfl
 have HL := Lib.hid hl
 have HM := Lib.hid hm
 obtain ⟨n, hn⟩ : ∃ n, n = l.length := ⟨_, rfl⟩
 obtain ⟨q, hq⟩ : ∃ q, q = m.length := ⟨_, rfl⟩
 have hs : n ≤ maxLen := by rw [hn]; have := hl.1.1; simpa using this
 unfold maxLen at hs
 have hs2 : q ≤ maxLen := by rw [hq]; have := hm.1.1; simpa using this
 unfold maxLen at hs2
 rw [← hn, ← hq]
 have HN := Lib.hid hn
 have HQ := Lib.hid hq
 clear hl hm hn hq
 by_cases hnq : n = q
 · subst hnq
   have q1 : ((n : Int) == (n : Int)) = true := beq_self_eq_true _
   go_enter Tryz.func50, Tryz.ntmps50
   go_wp2_with fail
   go_loopw [17] (fun i wr => ∃ k : Nat, k ≤ n ∧ i = .int .i64 k ∧ Hid (Below w.heap.size w wr) ∧ Hid ((l.map eiP).take k = (m.map eiP).take k)) (fun i _ => n - (intOf i).toNat)
   case atStart => exact ⟨0, Nat.zero_le _, rfl, Lib.hid (Below.refl _ _), Lib.hid rfl⟩
   case round =>
     obtain ⟨k, hk, rfl, HB, HC⟩ := hrel
     obtain ⟨wo, rfl⟩ : ∃ wo : World, wo = wr := ⟨_, rfl⟩
     by_cases hlt : k < n
     · obtain ⟨x, hx⟩ : ∃ x, l[k]? = some x := ⟨_, List.getElem?_eq_getElem (by have := HN.out; omega)⟩
       obtain ⟨y, hy⟩ : ∃ y, m[k]? = some y := ⟨_, List.getElem?_eq_getElem (by have := HQ.out; omega)⟩
       obtain ⟨b1, o1, rfl, hb1, x0, x1⟩ := ents_at (HL.out.keep HB.out) hx
       obtain ⟨b2, o2, rfl, hb2, y0, y1⟩ := ents_at (HM.out.keep HB.out) hy
       have hxp : (l.map eiP)[k]? = some (eiP x) := by rw [List.getElem?_map, hx]; rfl
       have hyp : (m.map eiP)[k]? = some (eiP y) := by rw [List.getElem?_map, hy]; rfl
       have HCALL := Lib.hid (show ∀ W, Below w.heap.size w W → Calls Tryz.prog 52 #[.agg #[.slice x.ka x.key.length x.kc, .slice x.va x.val.length x.vc], .agg #[.slice y.ka y.key.length y.kc, .slice y.va y.val.length y.vc]] W (RetV (.bool (decide (eiP x = eiP y))) W) from fun W hB => eq_ent x y W ((HL.out.2 x (List.mem_of_getElem? hx)).keep hB) ((HM.out.2 y (List.mem_of_getElem? hy)).keep hB))
       have w0 : ∀ O, (wo.alloc O).cell? ⟨b2, o2 + k * 2, none⟩ = some (.slice y.ka y.key.length y.kc) := fun O => cell_kept y0 (below1 wo O)
       have w1 : ∀ O, (wo.alloc O).cell? ⟨b2, o2 + k * 2 + 1, none⟩ = some (.slice y.va y.val.length y.vc) := fun O => cell_kept y1 (below1 wo O)
       have HB2 := Lib.hid (show ∀ O1 O2, Below w.heap.size w ((wo.alloc O1).alloc O2) from fun O1 O2 => (HB.out.alloc HB.out.size O1).alloc (by have := HB.out.size; simp; omega) O2)
       generalize x.key.length = k1 at x0 HCALL
       generalize x.val.length = k2 at x1 HCALL
       generalize y.key.length = k3 at y0 w0 HCALL
       generalize y.val.length = k4 at y1 w1 HCALL
       have HXP := Lib.hid hxp
       have HYP := Lib.hid hyp
       clear hx hy hxp hyp
       by_cases he : eiP x = eiP y
       · rw [decide_eq_true he] at HCALL
         have HE := Lib.hid he
         clear he
         go_wp2_with (first
           | (go_at_fn 52; (with_reducible refine (HCALL.out _ (HB2.out _ _)).mono ?_); rintro e w2 ⟨rfl, hB2⟩)
           | fail)
         go_roundw
         case rel => exact ⟨k + 1, by omega, by go_num, Lib.hid ((HB2.out _ _).trans (hB2.mono (HB2.out _ _).size)), Lib.hid (take_eq HC.out HXP.out HYP.out HE.out)⟩
         case measure => simp [intOf] <;> omega
       · rw [decide_eq_false he] at HCALL
         have HE := Lib.hid he
         clear he
         go_wp2_with (first
           | (go_at_fn 52; (with_reducible refine (HCALL.out _ (HB2.out _ _)).mono ?_); rintro e w2 ⟨rfl, hB2⟩)
           | fail)
         go_ret
         refine ⟨?_, (HB2.out _ _).trans (hB2.mono (HB2.out _ _).size)⟩
         rw [decide_eq_false (show ¬ l.map eiP = m.map eiP from fun h => by
           have h2 := HXP.out
           rw [h, HYP.out] at h2
           exact HE.out (Option.some.inj h2).symm)]
         rfl
     · obtain rfl : k = n := by omega
       go_wp2_with fail
       go_ret
       refine ⟨?_, HB.out⟩
       have h := HC.out
       rw [List.take_of_length_le (by rw [List.length_map, ← HN.out]; exact Nat.le_refl _), List.take_of_length_le (by rw [List.length_map, ← HQ.out]; exact Nat.le_refl _)] at h
       rw [decide_eq_true h]
       rfl
 · have q1 : ((n : Int) == (q : Int)) = false := beq_eq_false_iff_ne.2 (by omega)
   have q2 : ((n : Int) != (q : Int)) = true := bne_iff_ne.2 (by omega)
   have q3 : (n = q) = False := eq_false hnq
   have HNQ := Lib.hid hnq
   clear hnq
   go_enter Tryz.func50, Tryz.ntmps50
   go_wp2_with fail
   go_ret
   refine ⟨?_, by go_grown⟩
   rw [decide_eq_false (show ¬ l.map eiP = m.map eiP from fun h => by
     have := congrArg List.length h
     rw [List.length_map, List.length_map, ← HN.out, ← HQ.out] at this
     exact HNQ.out this)]
   rfl
end Go.Proofs.YtcgpflkaejbkhaaGreatDoor
namespace Go.Proofs.YtcgpflkaejbkhaaGreatDoor
open Go.RowKit

def deL (p : List UInt8 × List UInt8) : List Value := [.string ⟨p.1.toArray⟩, .string ⟨p.2.toArray⟩]
theorem alloc_at2 (W : World) (O : Obj) (n : Nat) (h : W.heap.size = n) : (W.alloc O).heap[n]? = some O := by subst h; exact heap_alloc_new W O
theorem info89 : (Tryz.prog.info? 89).map (fun i => (i.zero, i.size, i.bytes)) = some (some (.agg #[.string ⟨#[]⟩, .string ⟨#[]⟩]), 2, 32) := by kernel_rfl
theorem list_dent (w : World) {ops : Array Oper} {rest : List Oper} {o : Oper} {a : Act} {Q : Exit → Act → World → Prop} (hgd : o.guard = none) (s x : Operand)
   (ho : o.op = .call { callee := .builtin .append, args := #[s, x], argTypes := #[62, 62] }) (base : Nat) (v : Value) (n : Nat) (xs : List Value) (hv : a.eval s = v) (hown : w.ownsRow base 89 2 v n xs)
   (b c : Nat) (s1 s2 : ByteArray) (hx : a.eval x = .slice (some ⟨b, 0, none⟩) 1 c) (hq : w.heap[b]? = some (.cells #[.string s1, .string s2] 89)) (hl : n ≤ 2000) (hbase : base ≤ w.heap.size)
   (h : ∀ v' w', w'.ownsRow base 89 2 v' (n + 1) (xs ++ [.string s1, .string s2]) → w.grownBy w' v.ownBlock → wpList Tryz.prog ops Q rest (a.put o.dst v') w') : wpList Tryz.prog ops Q (o :: rest) a w := by
 refine wpList_plain hgd fun K hK => ?_
 obtain ⟨i0, hi0, hz0, hz1, hz2⟩ := info_parts info89
 obtain ⟨v', w', hrun, g2, g3, _, _⟩ := run_append_own_at (P := Tryz.prog) w base 62 o.type 89 i0 _ 2 32 Tryz.underlying62 hi0 hz0 hz1 hz2 rfl (by omega) v n xs hown ⟨b, 0, none⟩ 1 c [.string s1, .string s2] rfl
   (fun j u hj => by
     rw [Addr.add_lit, Nat.zero_add, cell_of_row w b j _ _ _ hq]
     simpa using hj)
   (fun u hu => by
     simp only [List.mem_cons, List.mem_nil_iff, or_false] at hu
     rcases hu with rfl | rfl <;> rfl) (by unfold maxLen; omega) (by omega) hbase
 unfold Oper.wp
 simp only [execOp, ho, resolve, invoke, builtin, Sem.run_bind, Sem.run_pure, Result.andThen_ok, List.map_toArray, List.map_cons, List.map_nil, hv, hx, hrun]
 exact hK _ _ (h v' w' g2 g3)
theorem step_dent (w : World) {ops : Array Oper} {o : Oper} {a : Act} {K : Act → World → Prop} {Q : Exit → Act → World → Prop} {E : Prop} (hgd : o.guard = none) (s x : Operand)
   (ho : o.op = .call { callee := .builtin .append, args := #[s, x], argTypes := #[62, 62] }) (base : Nat) (v : Value) (n : Nat) (xs : List Value) (hv : a.eval s = v) (hown : w.ownsRow base 89 2 v n xs)
   (b c : Nat) (s1 s2 : ByteArray) (hx : a.eval x = .slice (some ⟨b, 0, none⟩) 1 c) (hq : w.heap[b]? = some (.cells #[.string s1, .string s2] 89)) (hl : n ≤ 2000) (hbase : base ≤ w.heap.size)
   (h : ∀ v' w', w'.ownsRow base 89 2 v' (n + 1) (xs ++ [.string s1, .string s2]) → w.grownBy w' v.ownBlock → K (a.put o.dst v') w') :
   if Region.wanted o (yielded ops a.tmps) = true then Oper.wp Tryz.prog o a w K Q else E := by
 have hw : Region.wanted o (yielded ops a.tmps) = true := by simp [Region.wanted, hgd]
 rw [if_pos hw]
 obtain ⟨i0, hi0, hz0, hz1, hz2⟩ := info_parts info89
 obtain ⟨v', w', hrun, g2, g3, _, _⟩ := run_append_own_at (P := Tryz.prog) w base 62 o.type 89 i0 _ 2 32 Tryz.underlying62 hi0 hz0 hz1 hz2 rfl (by omega) v n xs hown ⟨b, 0, none⟩ 1 c [.string s1, .string s2] rfl
   (fun j u hj => by
     rw [Addr.add_lit, Nat.zero_add, cell_of_row w b j _ _ _ hq]
     simpa using hj)
   (fun u hu => by
     simp only [List.mem_cons, List.mem_nil_iff, or_false] at hu
     rcases hu with rfl | rfl <;> rfl) (by unfold maxLen; omega) (by omega) hbase
 unfold Oper.wp
 simp only [execOp, ho, resolve, invoke, builtin, Sem.run_bind, Sem.run_pure, Result.andThen_ok, List.map_toArray, List.map_cons, List.map_nil, hv, hx, hrun]
 exact h v' w' g2 g3
def DEntsP (w : World) (L : List (List UInt8 × List UInt8)) (e : Ending) (w' : World) : Prop := ∃ v : Value, e = .returned v ∧ Below w.heap.size w w' ∧ w'.ownsRow w.heap.size 89 2 v L.length (L.map deL).flatten
structure DE (w : World) (L : List (List UInt8 × List UInt8)) (v : Value) (k : Nat) (W : World) : Prop where
 below : Below w.heap.size w W
 own : W.ownsRow w.heap.size 89 2 v k ((L.take k).map deL).flatten
theorem DE.more {w : World} {L : List (List UInt8 × List UInt8)} {v : Value} {k : Nat} {W w6 : World} {p : List UInt8 × List UInt8} (h : DE w L v k W) (hp : L[k]? = some p) {v' : Value} (hown : w6.ownsRow w.heap.size 89 2 v' (k + 1) (((L.take k).map deL).flatten ++ [.string ⟨p.1.toArray⟩, .string ⟨p.2.toArray⟩])) {W1 : World} (hB : Below W.heap.size W W1) (hg : W1.grownBy w6 v.ownBlock) : DE w L v' (k + 1) w6 := by
 refine ⟨(h.below.trans (hB.mono h.below.size)).grown hg (Nat.le_trans h.below.size hB.size) (fun b e => (h.own.lt b e).1), ?_⟩
 rw [List.take_add_one, hp]
 simpa [deL] using hown
set_option maxHeartbeats 2000000 in
theorem law_ents (A : Option Addr) (c : Nat) (l : List EntI) (w : World) (hl : EntsAt w A l) (hs : l.length ≤ 1000) : Calls Tryz.prog 26 #[.slice A l.length c] w (DEntsP w (l.map eiP)) := by
 have HL := Lib.hid hl
 obtain ⟨n, hn⟩ : ∃ n, n = l.length := ⟨_, rfl⟩
 rw [← hn] at hs ⊢
 have HN := Lib.hid hn
 obtain ⟨L, hL⟩ : ∃ L, L = l.map eiP := ⟨_, rfl⟩
 have HLL := Lib.hid (show L.length = n by rw [hL, List.length_map, hn])
 have HLX := Lib.hid (show ∀ (k : Nat) (x : EntI), l[k]? = some x → L[k]? = some (eiP x) from fun k x hx => by rw [hL, List.getElem?_map, hx]; rfl)
 rw [← hL]
 clear hl hn hL
 go_enter Tryz.func26, Tryz.ntmps26
 go_wp2_with fail
 go_loopw [3, 8] (fun v i wr => ∃ k : Nat, k ≤ n ∧ i = .int .i64 k ∧ Hid (DE w L v k wr)) (fun _ i _ => n - (intOf i).toNat)
 case atStart => exact ⟨0, Nat.zero_le _, rfl, Lib.hid ⟨Below.refl _ _, World.ownsRow_nil _ _ _ _⟩⟩
 case round =>
   obtain ⟨k, hk, rfl, HD⟩ := hrel
   obtain ⟨wo, rfl⟩ : ∃ wo : World, wo = wr := ⟨_, rfl⟩
   by_cases hlt : k < n
   · obtain ⟨x, hx⟩ : ∃ x, l[k]? = some x := ⟨_, List.getElem?_eq_getElem (by have := HN.out; omega)⟩
     obtain ⟨b1, o1, rfl, hb1, x0, x1⟩ := ents_at (HL.out.keep HD.out.below) hx
     have HXP := Lib.hid (HLX.out k x hx)
     have hE : ∀ O, EI (wo.alloc O) x := fun O => ((HL.out.2 x (List.mem_of_getElem? hx)).keep HD.out.below).keep (below1 wo O)
     have c1 : ∀ O, (convert 55 9 (.slice x.ka x.key.length x.kc)).run Tryz.prog (wo.alloc O) = .ok (.string ⟨x.key.toArray⟩) (wo.alloc O) := fun O => (hE O).k.conv _
     have c2 : ∀ O, (convert 55 9 (.slice x.va x.val.length x.vc)).run Tryz.prog (wo.alloc O) = .ok (.string ⟨x.val.toArray⟩) (wo.alloc O) := fun O => (hE O).v.conv _
     generalize x.key.length = k1 at x0 c1
     generalize x.val.length = k2 at x1 c2
     obtain ⟨s1, hs1⟩ : ∃ s1, s1 = (⟨x.key.toArray⟩ : ByteArray) := ⟨_, rfl⟩
     obtain ⟨s2, hs2⟩ : ∃ s2, s2 = (⟨x.val.toArray⟩ : ByteArray) := ⟨_, rfl⟩
     rw [← hs1] at c1
     rw [← hs2] at c2
     have HB2 := Lib.hid (show ∀ O1 O2, Below wo.heap.size wo ((wo.alloc O1).alloc O2) from fun O1 O2 => (below1 wo O1).alloc (by simp) O2)
     have H1 := Lib.hid hs1
     have H2 := Lib.hid hs2
     have HSZ := Lib.hid HD.out.below.size
     clear hE hx hs1 hs2
     go_wp2_with (first
       | (at_builtin; refine list_dent _ rfl _ _ rfl w.heap.size _ k ((L.take k).map deL).flatten rfl (own_kept HD.out.own (HB2.out _ _) (Nat.le_refl _)) _ 1 s1 s2 rfl (alloc_at2 _ _ _ (by simp)) ?c3 ?c4 ?_)
       | fail)
     case c3 => omega
     case c4 => have := HSZ.out; simp; omega
     intro v8 w8 hown hgr
     have HM := Lib.hid (HD.out.more HXP.out (by rw [H1.out, H2.out] at hown; simpa [eiP] using hown) (HB2.out _ _) hgr)
     clear hown hgr
     go_wp2_with fail
     go_roundw
     case rel => exact ⟨k + 1, by omega, by go_num, HM⟩
     case measure => simp [intOf] <;> omega
   · obtain rfl : k = n := by omega
     go_wp2_with fail
     go_ret
     refine ⟨_, rfl, HD.out.below, ?_⟩
     have := HD.out.own
     rw [List.take_of_length_le (by rw [HLL.out]; exact Nat.le_refl _)] at this
     rw [HLL.out]
     exact this
end Go.Proofs.YtcgpflkaejbkhaaGreatDoor
namespace Go.Proofs.YtcgpflkaejbkhaaGreatDoor
open Go.RowKit

def sB (l : List UInt8) : ByteArray := ⟨l.toArray⟩
theorem row_ty2 {W : World} {base ty K : Nat} {v : Value} {k : Nat} {l : List Value} (h : W.ownsRow base ty K v k l) {b : Nat} {cur : Array Value} {t : TypeId} {fr : Nat × Nat} (hb : W.heap[b]? = some (.cells cur t fr)) (ht : t ≠ ty) : v.ownBlock ≠ some b := by
 intro e
 obtain ⟨_, h2⟩ := h
 rcases h2 with ⟨h3, _⟩ | ⟨g, cap, cur', h3, _, h4, _⟩
 · rw [h3] at e; cases e
 · rw [h3] at e
   have := Option.some.inj e
   dsimp only at this
   subst this
   rw [h4] at hb
   cases hb
   exact ht rfl
theorem sB_size (l : List UInt8) : (sB l).size = l.length := rfl
theorem add_sB (a b : List UInt8) (h : a.length + b.length ≤ 100000) (W : World) : (Op.stringOp .add (sB a) (sB b)).run Tryz.prog W = .ok (.string (sB (a ++ b))) W := by
 have := run_string_add_sum (P := Tryz.prog) W (sB a) (sB b) (by rw [sB_size, sB_size]; omega)
 rw [this]
 exact congrArg (fun x => Result.ok (Value.string x) W) (join_bytes a b)
theorem add_key (c : UInt8) (nm : ByteArray) (h : nm.size ≤ 1000) (W : World) : (Op.stringOp .add ⟨#[c]⟩ nm).run Tryz.prog W = .ok (.string (sB (c :: nm.data.toList))) W := by
 have h1 : nm = sB nm.data.toList := rfl
 have := add_sB [c] nm.data.toList (by have h3 : nm.data.toList.length = nm.data.size := Array.length_toList; have h2 : nm.data.size = nm.size := rfl; simp only [List.length_cons, List.length_nil]; omega) W
 exact this
structure RE (w : World) (A : Option Addr) (n c : Nat) (ia : Option Addr) (mx ic : Nat) (v : Value) (k : Nat) (L : List (List UInt8 × List UInt8)) (W : World) : Prop where
 below : Below w.heap.size w W
 arg : W.heap[w.heap.size]? = some (.cells #[.slice A n c, .slice ia mx ic] 36)
 own : W.ownsRow (w.heap.size + 1) 89 2 v k (L.map deL).flatten
 len : L.length = k
theorem RE.keep {w : World} {A : Option Addr} {n c : Nat} {ia : Option Addr} {mx ic : Nat} {v : Value} {k : Nat} {L : List (List UInt8 × List UInt8)} {W W' : World} (h : RE w A n c ia mx ic v k L W) (hB : Below W.heap.size W W') : RE w A n c ia mx ic v k L W' :=
 ⟨h.below.trans (hB.mono h.below.size), (hB.block _ (heap_lt h.arg)).trans h.arg, own_kept h.own hB (Nat.le_refl _), h.len⟩
theorem RE.more {w : World} {A : Option Addr} {n c : Nat} {ia : Option Addr} {mx ic : Nat} {v : Value} {k : Nat} {L : List (List UInt8 × List UInt8)} {W w6 : World} {p : List UInt8 × List UInt8} (h : RE w A n c ia mx ic v k L W) {v' : Value} (hown : w6.ownsRow (w.heap.size + 1) 89 2 v' (k + 1) ((L.map deL).flatten ++ [.string (sB p.1), .string (sB p.2)])) (hg : W.grownBy w6 v.ownBlock) : RE w A n c ia mx ic v' (k + 1) (L ++ [p]) w6 := by
 refine ⟨h.below.grown hg h.below.size (fun b e => by have := (h.own.lt b e).1; omega), (hg.block _ (heap_lt h.arg) (fun e => by have := (h.own.lt _ e.symm).1; omega)).trans h.arg, ?_, by rw [List.length_append, h.len]; rfl⟩
 rw [List.map_append, List.flatten_append, show ([p].map deL).flatten = [.string (sB p.1), .string (sB p.2)] from rfl]
 exact hown
structure REB (w : World) (A : Option Addr) (n c : Nat) (ia : Option Addr) (mx ic : Nat) (v : Value) (k : Nat) (L : List (List UInt8 × List UInt8)) (xb : Nat) (row : Array Value) (ty : TypeId) (W : World) : Prop where
 en : RE w A n c ia mx ic v k L W
 box : W.heap[xb]? = some (.cells row ty)
theorem REB.keep {w : World} {A : Option Addr} {n c : Nat} {ia : Option Addr} {mx ic : Nat} {v : Value} {k : Nat} {L : List (List UInt8 × List UInt8)} {xb : Nat} {row : Array Value} {ty : TypeId} {W W' : World} (h : REB w A n c ia mx ic v k L xb row ty W) (hB : Below W.heap.size W W') : REB w A n c ia mx ic v k L xb row ty W' :=
 ⟨h.en.keep hB, (hB.block _ (heap_lt h.box)).trans h.box⟩
theorem DEnts_of {w : World} {A : Option Addr} {n c : Nat} {ia : Option Addr} {mx ic : Nat} {v : Value} {k : Nat} {L : List (List UInt8 × List UInt8)} {W : World} (h : RE w A n c ia mx ic v k L W) : W.ownsRow w.heap.size 89 2 v L.length (L.map deL).flatten := by
 rw [h.len]
 exact ⟨h.own.1, h.own.2.imp id fun ⟨g, cap, cur, e1, e2, e3⟩ => ⟨g, cap, cur, e1, by omega, e3⟩⟩
theorem sx6 {W : World} {xb : Nat} {v0 v1 v2 v3 v4 v5 : Value} {ty : TypeId} (h : W.heap[xb]? = some (.cells #[v0, v1, v2, v3, v4, v5] ty)) : W.cell? ⟨xb, 0, none⟩ = some v0 ∧ W.cell? ⟨xb, 3, none⟩ = some v3 ∧ W.cell? ⟨xb, 4, none⟩ = some v4 ∧ W.cell? ⟨xb, 5, none⟩ = some v5 :=
 ⟨cell_of_row _ _ 0 _ _ _ h, cell_of_row _ _ 3 _ _ _ h, cell_of_row _ _ 4 _ _ _ h, cell_of_row _ _ 5 _ _ _ h⟩
theorem sx5 {W : World} {xb : Nat} {v0 v1 v2 v3 v4 : Value} {ty : TypeId} (h : W.heap[xb]? = some (.cells #[v0, v1, v2, v3, v4] ty)) : W.cell? ⟨xb, 0, none⟩ = some v0 ∧ W.cell? ⟨xb, 2, none⟩ = some v2 ∧ W.cell? ⟨xb, 3, none⟩ = some v3 ∧ W.cell? ⟨xb, 4, none⟩ = some v4 :=
 ⟨cell_of_row _ _ 0 _ _ _ h, cell_of_row _ _ 2 _ _ _ h, cell_of_row _ _ 3 _ _ _ h, cell_of_row _ _ 4 _ _ _ h⟩
theorem old_box {W : World} {xb : Nat} {r : Array Value} {ty : TypeId} {fr : Nat × Nat} (O : Obj) (h : W.heap[xb]? = some (.cells r ty fr)) : (W.alloc O).heap[xb]? = some (.cells r ty fr) := (heap_alloc_old _ _ (heap_lt h)).trans h
theorem grown_box {W W' : World} {base n K : Nat} {v : Value} {xs : List Value} {xb : Nat} {r : Array Value} {ty : TypeId} {fr : Nat × Nat} (h : W.heap[xb]? = some (.cells r ty fr)) (ho : W.ownsRow base 89 K v n xs) (ht : ty ≠ 89) (hg : W.grownBy W' v.ownBlock) : W'.heap[xb]? = some (.cells r ty fr) :=
 (hg.block _ (heap_lt h) (fun e => row_ty2 ho h ht e.symm)).trans h
end Go.Proofs.YtcgpflkaejbkhaaGreatDoor
namespace Go.Proofs.YtcgpflkaejbkhaaGreatDoor
open Go.RowKit

abbrev Sch := List PT × List PX
def stepE (kind : UInt8) (s : Sch) (p : List UInt8 × List UInt8) : Option Sch := match p.1 with
 | [] => none
 | c :: r => if c ≠ 116 ∧ c ≠ 105 then none else if c ≠ kind then some s else if kind = 116 then oneT s.1 s.2 (sB r) (some p.2) else oneX s.1 s.2 (sB r) (some p.2)
def passE (kind : UInt8) : Sch → List (List UInt8 × List UInt8) → Option Sch
 | s, [] => some s
 | s, p :: l => (stepE kind s p).bind fun t => passE kind t l
def readF (L : List (List UInt8 × List UInt8)) : Option Sch := ((passE 116 ([], []) L).bind fun s => passE 105 s L).bind fun s => if entsP s.1 s.2 = L then some s else none
theorem passE_take (kind : UInt8) (L : List (List UInt8 × List UInt8)) (s : Sch) {k : Nat} {p : List UInt8 × List UInt8} (hp : L[k]? = some p) : passE kind s (L.take (k + 1)) = (passE kind s (L.take k)).bind fun t => stepE kind t p := by
 induction L generalizing s k with
 | nil => cases hp
 | cons x L ih =>
   cases k with
   | zero =>
     cases hp
     show (stepE kind s _).bind (fun t => passE kind t (L.take 0)) = stepE kind s _
     rw [List.take_zero]
     generalize stepE kind s _ = y
     cases y <;> rfl
   | succ k =>
     show (stepE kind s x).bind (fun t => passE kind t (L.take (k + 1))) = ((stepE kind s x).bind fun t => passE kind t (L.take k)).bind _
     cases stepE kind s x with
     | none => rfl
     | some t => exact ih t hp
theorem passE_none (kind : UInt8) (L : List (List UInt8 × List UInt8)) (s : Sch) {k : Nat} (h : passE kind s (L.take k) = none) : passE kind s L = none := by
 induction L generalizing s k with
 | nil => rw [List.take_nil] at h; exact h
 | cons x L ih =>
   cases k with
   | zero => cases h
   | succ k =>
     show (stepE kind s x).bind (fun t => passE kind t L) = none
     have h2 : (stepE kind s x).bind (fun t => passE kind t (L.take k)) = none := h
     cases hs : stepE kind s x with
     | none => rfl
     | some t =>
       rw [hs] at h2
       exact ih t h2
structure OkS (s : Sch) : Prop where
 tl : s.1.length ≤ 8
 xl : s.2.length ≤ 12
 t : ∀ p ∈ s.1, OkT p
 x : ∀ p ∈ s.2, OkX p
theorem name_size {s : ByteArray} (h : nameB s.data.toList = true) : s.size ≤ 100 := by
 have h1 := (nameB_iff.1 h).1
 have h3 : s.data.toList.length = s.data.size := Array.length_toList
 have h2 : s.data.size = s.size := rfl
 omega
theorem colsErr_ok {l : List Col} : ∀ (f k : Nat), l.length < k + f → colsErr l f k = 0 → ∀ j, k ≤ j → ∀ c, l[j]? = some c → colBad c = false := by
 intro f
 induction f with
 | zero =>
   intro k hf _ j hj c hc
   have := (List.getElem?_eq_some_iff.1 hc).1
   omega
 | succ f ih =>
   intro k hf h j hj c hc
   unfold colsErr at h
   by_cases hk : k < l.length
   · rw [List.getElem?_eq_getElem hk] at h
     dsimp only at h
     split at h
     · exact absurd h (by decide)
     · rename_i hb
       split at h
       · exact absurd h (by decide)
       · by_cases e : j = k
         · subst e
           rw [List.getElem?_eq_getElem hk] at hc
           cases hc
           simpa using hb
         · exact ih (k + 1) (by omega) h j (by omega) c hc
   · have := (List.getElem?_eq_some_iff.1 hc).1
     omega
theorem placesErr_ok {nc : Int} {l : List Int} : ∀ (f k : Nat), l.length < k + f → placesErr nc l f k = 0 → ∀ j, k ≤ j → ∀ c, l[j]? = some c → 0 ≤ c ∧ c < nc := by
 intro f
 induction f with
 | zero =>
   intro k hf _ j hj c hc
   have := (List.getElem?_eq_some_iff.1 hc).1
   omega
 | succ f ih =>
   intro k hf h j hj c hc
   unfold placesErr at h
   by_cases hk : k < l.length
   · rw [List.getElem?_eq_getElem hk] at h
     dsimp only at h
     split at h
     · exact absurd h (by decide)
     · rename_i hb
       split at h
       · exact absurd h (by decide)
       · by_cases e : j = k
         · subst e
           rw [List.getElem?_eq_getElem hk] at hc
           cases hc
           omega
         · exact ih (k + 1) (by omega) h j (by omega) c hc
   · have := (List.getElem?_eq_some_iff.1 hc).1
     omega
theorem colsR_ok {l : List Col} (h : colsR l = 0) : l.length ≤ 6 ∧ ∀ c ∈ l, colBad c = false := by
 unfold colsR at h
 split at h
 · exact absurd h (by decide)
 · split at h
   · exact absurd h (by decide)
   · refine ⟨by omega, fun c hc => ?_⟩
     obtain ⟨j, hj⟩ := List.mem_iff_getElem?.1 hc
     exact colsErr_ok _ 0 (by omega) h j (Nat.zero_le _) c hj
theorem placesR_ok {nc : Int} {l : List Int} (h : placesR nc l = 0) : l.length ≤ 3 ∧ ∀ c ∈ l, 0 ≤ c ∧ c < nc := by
 unfold placesR at h
 split at h
 · exact absurd h (by decide)
 · split at h
   · exact absurd h (by decide)
   · refine ⟨by omega, fun c hc => ?_⟩
     obtain ⟨j, hj⟩ := List.mem_iff_getElem?.1 hc
     exact placesErr_ok _ 0 (by omega) h j (Nat.zero_le _) c hj
theorem inV_le (st : Rd) : inV st ≤ 9223372036854775807 := by
 unfold inV
 cases h : intR st with
 | none => decide
 | some p =>
   show p.1 ≤ _
   unfold intR at h
   cases hn : numR st with
   | none => rw [hn] at h; cases h
   | some q =>
     have hq := numR_lt (v := q.1) (l' := q.2) hn
     rw [hn] at h
     cases h
     dsimp only
     split <;> omega
theorem colOk {c : Col} (h : colBad c = false) : c.name.size ≤ 100 ∧ 0 ≤ c.ty ∧ c.ty ≤ 1000 := by
 unfold colBad at h
 simp only [Bool.or_eq_false_iff, Bool.not_eq_false', decide_eq_false_iff_not] at h
 exact ⟨name_size h.1.1, by omega, by omega⟩
theorem okT_of {T : List PT} {t : PT} (h : errT T t = 0) (hx : t.next ≤ 9223372036854775807) (hr : t.rows ≤ 9223372036854775807) : OkT t := by
 unfold errT at h
 split at h
 · exact absurd h (by decide)
 · rename_i hb
   split at h
   · exact absurd h (by decide)
   · obtain ⟨h1, h2⟩ := colsR_ok h
     have hb2 : ptBad t = false := by simpa using hb
     unfold ptBad at hb2
     simp only [Bool.or_eq_false_iff, Bool.not_eq_false', decide_eq_false_iff_not] at hb2
     obtain ⟨⟨⟨⟨b1, b2⟩, b3⟩, b4⟩, b5⟩ := hb2
     exact ⟨name_size b1, by omega, fun c hc => colOk (h2 c hc), ⟨by omega, by omega⟩, ⟨by omega, hx⟩, ⟨by omega, hr⟩⟩
theorem putT_len2 (T : List PT) (t : PT) (h : errT T t = 0) (hl : T.length ≤ 8) : (putT T t).length ≤ 8 := by
 unfold errT at h
 split at h
 · exact absurd h (by decide)
 · split at h
   · exact absurd h (by decide)
   · rename_i hq
     unfold putT
     cases hf : findN PT.name T t.name with
     | some k => dsimp only; rw [List.length_set]; exact hl
     | none =>
       rw [hf] at hq
       dsimp only
       rw [sortG_len, List.length_append]
       have h8 : ¬ 8 ≤ T.length := by simpa using hq
       simp only [List.length_cons, List.length_nil]
       omega
theorem putT_mem {T : List PT} {t p : PT} (h : p ∈ putT T t) : p ∈ T ∨ p = t := by
 unfold putT at h
 cases hf : findN PT.name T t.name with
 | some k => rw [hf] at h; exact List.mem_or_eq_of_mem_set h
 | none =>
   rw [hf] at h
   have h2 := sortG_mem _ h
   rw [List.mem_append, List.mem_singleton] at h2
   exact h2
theorem putX_mem {X : List PX} {t p : PX} (h : p ∈ putX X t) : p ∈ X ∨ p = t := by
 unfold putX at h
 cases hf : findN PX.name X t.name with
 | some k => rw [hf] at h; exact List.mem_or_eq_of_mem_set h
 | none =>
   rw [hf] at h
   have h2 := sortG_mem _ h
   rw [List.mem_append, List.mem_singleton] at h2
   exact h2
theorem okX_of {T : List PT} {X : List PX} {x : PX} (h : errX T X x = 0) (hT : ∀ t ∈ T, OkT t) (hx : x.cursor ≤ 9223372036854775807) (htn : x.table.size ≤ 100) (hl : X.length ≤ 12) : OkX x ∧ (putX X x).length ≤ 12 := by
 unfold errX at h
 split at h
 · exact absurd h (by decide)
 · rename_i hb
   have hb2 : pxBad x = false := by simpa using hb
   unfold pxBad at hb2
   simp only [Bool.or_eq_false_iff, Bool.not_eq_false', decide_eq_false_iff_not] at hb2
   obtain ⟨⟨⟨⟨⟨b1, b2⟩, b3⟩, b4⟩, b5⟩, b6⟩ := hb2
   cases hf : findN PT.name T x.table with
   | none => rw [hf] at h; exact absurd (show (130 : Int) = 0 from h) (by decide)
   | some k =>
     rw [hf] at h
     dsimp only at h
     split at h
     · exact absurd h (by decide)
     · rename_i hq
       have hk := findN_lt hf
       rw [List.getElem?_eq_getElem hk] at h
       dsimp only at h
       obtain ⟨h1, h2⟩ := placesR_ok h
       have hc := (hT _ (List.getElem_mem hk)).len
       refine ⟨⟨name_size b1, htn, by omega, fun c hc2 => ⟨(h2 c hc2).1, by have := (h2 c hc2).2; omega⟩, ⟨by omega, by omega⟩, ⟨by omega, by omega⟩, ⟨by omega, hx⟩⟩, ?_⟩
       unfold putX
       cases hf2 : findN PX.name X x.name with
       | some k => dsimp only; rw [List.length_set]; exact hl
       | none =>
         rw [hf2] at hq
         dsimp only
         rw [sortG_len, List.length_append]
         have h8 : ¬ 12 ≤ X.length := by simpa using hq
         simp only [List.length_cons, List.length_nil]
         omega
theorem txV_size (m : Nat) (st : Rd) (hm : m ≤ 100) : (txV m st).size ≤ 100 := by
 show (valR (textR m st) []).toArray.size ≤ 100
 rw [List.size_toArray]
 cases h : textR m st with
 | none => exact Nat.zero_le _
 | some p =>
   show p.1.length ≤ 100
   unfold textR at h
   cases hc : countR m st with
   | none => rw [hc] at h; cases h
   | some q =>
     have hq : q.1 ≤ m := by have := cnV_le m st; unfold cnV at this; rw [hc] at this; exact this
     rw [hc] at h
     simp only [Option.bind_some] at h
     split at h
     · cases h
     · cases h
       dsimp only
       rw [List.length_take]
       omega
theorem oneT_ok {s : Sch} {t : Sch} {nm : ByteArray} {st : Rd} (hs : OkS s) (h : oneT s.1 s.2 nm st = some t) : OkS t := by
 unfold oneT at h
 cases hf : tabF nm st with
 | none => rw [hf] at h; cases h
 | some p =>
   rw [hf] at h
   dsimp only at h
   split at h
   · rename_i he
     cases h
     have hp : p.next ≤ 9223372036854775807 ∧ p.rows ≤ 9223372036854775807 := by
       unfold tabF at hf
       split at hf
       · cases hf; exact ⟨inV_le _, inV_le _⟩
       · cases hf
     exact ⟨putT_len2 _ _ he hs.tl, hs.xl, fun q hq => (putT_mem hq).elim (hs.t q) (fun e => e ▸ okT_of he hp.1 hp.2), hs.x⟩
   · cases h
theorem oneX_ok {s : Sch} {t : Sch} {nm : ByteArray} {st : Rd} (hs : OkS s) (h : oneX s.1 s.2 nm st = some t) : OkS t := by
 unfold oneX at h
 cases hf : idxF nm st with
 | none => rw [hf] at h; cases h
 | some p =>
   rw [hf] at h
   dsimp only at h
   split at h
   · rename_i he
     cases h
     have hp : p.cursor ≤ 9223372036854775807 ∧ p.table.size ≤ 100 := by
       unfold idxF at hf
       split at hf
       · cases hf; exact ⟨inV_le _, txV_size 12 _ (by omega)⟩
       · cases hf
     obtain ⟨h1, h2⟩ := okX_of he hs.t hp.1 hp.2 hs.xl
     exact ⟨hs.tl, h2, hs.t, fun q hq => (putX_mem hq).elim (hs.x q) (fun e => e ▸ h1)⟩
   · cases h
theorem stepE_ok {kind : UInt8} {s t : Sch} {p : List UInt8 × List UInt8} (hs : OkS s) (h : stepE kind s p = some t) : OkS t := by
 unfold stepE at h
 split at h
 · cases h
 · split at h
   · cases h
   · split at h
     · cases h; exact hs
     · split at h
       · exact oneT_ok hs h
       · exact oneX_ok hs h
theorem passE_ok {kind : UInt8} {L : List (List UInt8 × List UInt8)} : ∀ {s t : Sch}, OkS s → passE kind s L = some t → OkS t := by
 induction L with
 | nil => intro s t hs h; cases h; exact hs
 | cons p L ih =>
   intro s t hs h
   have h2 : (stepE kind s p).bind (fun t => passE kind t L) = some t := h
   cases hq : stepE kind s p with
   | none => rw [hq] at h2; cases h2
   | some u => rw [hq] at h2; exact ih (stepE_ok hs hq) h2
theorem OkS.nil : OkS ([], []) := ⟨Nat.zero_le _, Nat.zero_le _, fun _ h => (List.not_mem_nil h).elim, fun _ h => (List.not_mem_nil h).elim⟩
end Go.Proofs.YtcgpflkaejbkhaaGreatDoor
