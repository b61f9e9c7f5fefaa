/- The readers of the package wire: what each takes off the bytes that are left. -/
import Derived.Test.YtcgpflkaejbkhaaGreatDoorQAL
import Derived.Laws.BitsAllLaws
import Derived.Laws.IdiomStrings
import Derived.IntWalk
import Derived.BigQuiet
namespace Go.Proofs.YtcgpflkaejbkhaaGreatDoor
open Go.RowKit

def byV (c : UInt8) : Value := .int .u8 (c.toNat : Int)
def BtAt (w : World) (A : Option Addr) (l : List UInt8) : Prop := l.length ≤ maxLen ∧ (l = [] ∨ ∃ g off, A = some ⟨g, off, none⟩ ∧ g < w.heap.size ∧ ∀ (i : Nat) (c : UInt8), l[i]? = some c → w.cell? ⟨g, off + i, none⟩ = some (byV c))
theorem BtAt.keep {w w' : World} {A : Option Addr} {l : List UInt8} (hB : Below w.heap.size w w') (h : BtAt w A l) : BtAt w' A l :=
 ⟨h.1, h.2.imp id fun ⟨g, off, h1, h2, h3⟩ => ⟨g, off, h1, Nat.lt_of_lt_of_le h2 hB.size, fun i c hi => (hB.cell (p := ⟨g, off + i, none⟩) h2).trans (h3 i c hi)⟩⟩
theorem BtAt.grown {w w' : World} {A : Option Addr} {l : List UInt8} (h : BtAt w A l) {r : Option Nat} (hg : w.grownBy w' r) (hr : ∀ a, A = some a → r ≠ some a.block) : BtAt w' A l := by
 refine ⟨h.1, h.2.imp id fun ⟨g, off, h1, h2, h3⟩ => ⟨g, off, h1, Nat.lt_of_lt_of_le h2 hg.size, fun i c hi => ?_⟩⟩
 refine Eq.trans ?_ (h3 i c hi)
 unfold World.cell?
 rw [hg.block g h2 (fun e => hr ⟨g, off, none⟩ h1 e.symm)]
def takeN (i acc : Nat) : List UInt8 → Option (Nat × List UInt8)
 | [] => none
 | c :: l => if i = 9 ∧ 1 < c.toNat then none else if 128 ≤ c.toNat then takeN (i + 1) (acc + c.toNat % 128 * 128 ^ i) l else if c.toNat = 0 ∧ 0 < i then none else some (acc + c.toNat % 128 * 128 ^ i, l)
abbrev Rd := Option (List UInt8)
def numR (st : Rd) : Option (Nat × List UInt8) := st.bind fun l => takeN 0 0 l
def countR (most : Nat) (st : Rd) : Option (Nat × List UInt8) := (numR st).bind fun p => if most < p.1 then none else some p
def textR (most : Nat) (st : Rd) : Option (List UInt8 × List UInt8) := (countR most st).bind fun p => if p.2.length < p.1 then none else some (p.2.take p.1, p.2.drop p.1)
def boolR (st : Rd) : Option (Bool × List UInt8) := st.bind fun l => match l with | [] => none | c :: l => if 1 < c.toNat then none else some (c.toNat == 1, l)
def intR (st : Rd) : Option (Int × List UInt8) := (numR st).map fun p => (if p.1 % 2 = 1 then -((p.1 / 2 : Nat) : Int) - 1 else ((p.1 / 2 : Nat) : Int), p.2)
def restR {α : Type} (r : Option (α × List UInt8)) : Rd := r.map Prod.snd
theorem takeN_lt {l : List UInt8} : ∀ {i acc : Nat} {v : Nat} {l' : List UInt8}, acc < 128 ^ i → i ≤ 9 → takeN i acc l = some (v, l') → v < 2 ^ 64 := by
 induction l with
 | nil => intro i acc v l' _ _ h; cases h
 | cons c l ih =>
   intro i acc v l' ha hi h
   unfold takeN at h
   have hm : c.toNat % 128 < 128 := Nat.mod_lt _ (by omega)
   split at h
   · cases h
   · rename_i h9
     split at h
     · rename_i hc
       have hi9 : i ≠ 9 := fun e => h9 ⟨e, by omega⟩
       refine ih ?_ (by omega) h
       rw [Nat.pow_succ]
       have : c.toNat % 128 * 128 ^ i ≤ 127 * 128 ^ i := Nat.mul_le_mul_right _ (by omega)
       omega
     · split at h
       · cases h
       · rename_i hc h0
         have he := congrArg (fun o => o.map Prod.fst) h
         simp only [Option.map_some, Option.some.injEq] at he
         rw [← he]
         by_cases hi9 : i = 9
         · subst hi9
           have hc1 : c.toNat ≤ 1 := by
             rcases Nat.lt_or_ge 1 c.toNat with h | h
             · exact absurd ⟨rfl, h⟩ h9
             · exact h
           have : c.toNat % 128 ≤ 1 := by omega
           have e1 : (128 : Nat) ^ 9 = 9223372036854775808 := by decide
           rw [e1] at ha ⊢
           have : c.toNat % 128 * 9223372036854775808 ≤ 1 * 9223372036854775808 := Nat.mul_le_mul_right _ this
           omega
         · have h1 : c.toNat % 128 * 128 ^ i ≤ 127 * 128 ^ i := Nat.mul_le_mul_right _ (by omega)
           have h2 : (128 : Nat) ^ (i + 1) ≤ 128 ^ 9 := Nat.pow_le_pow_right (by omega) (by omega)
           rw [Nat.pow_succ] at h2
           have e1 : (128 : Nat) ^ 9 = 9223372036854775808 := by decide
           omega
theorem numR_lt {st : Rd} {v : Nat} {l' : List UInt8} (h : numR st = some (v, l')) : v < 2 ^ 64 := by
 cases st with
 | none => cases h
 | some l => exact takeN_lt (by decide) (by omega) h
theorem or_step {acc d i : Nat} (ha : acc < 128 ^ i) (_hd : d < 128) (hv : acc + d * 128 ^ i < 2 ^ 64) : bits .or .u64 ((acc : Nat) : Int) ((d * 128 ^ i : Nat) : Int) = ((acc + d * 128 ^ i : Nat) : Int) := by
 rw [u64_or_nat acc (d * 128 ^ i) (by omega) (by omega)]
 congr 1
 have e : (128 : Nat) ^ i = 2 ^ (7 * i) := by rw [Nat.pow_mul]
 rw [e] at ha ⊢
 rw [Nat.mul_comm d, Nat.or_comm, ← Nat.two_pow_add_eq_or_of_lt ha d]
 omega
def RdAt (W : World) (rb : Nat) (st : Rd) : Prop := ∃ (A : Option Addr) (n c : Nat) (e : Int), W.heap[rb]? = some (.cells #[.slice A n c, .int .i64 e] 151) ∧ (match st with | none => e ≠ 0 | some l => e = 0 ∧ n = l.length ∧ n ≤ c ∧ ∃ b off, A = some ⟨b, off, none⟩ ∧ b < rb ∧ BtAt W A l)
theorem RdAt.keep {W W' : World} {rb : Nat} {st : Rd} (h : RdAt W rb st) (hB : Below W.heap.size W W') : RdAt W' rb st := by
 obtain ⟨A, n, c, e, h1, h2⟩ := h
 refine ⟨A, n, c, e, (hB.block _ (heap_lt h1)).trans h1, ?_⟩
 cases st with
 | none => exact h2
 | some l =>
   obtain ⟨q1, q2, q3, b, off, q4, q5, q6⟩ := h2
   exact ⟨q1, q2, q3, b, off, q4, q5, q6.keep hB⟩
def RdP {α : Type} (W : World) (rb : Nat) (r : Option (α × List UInt8)) (val : α → Value) (z : Value) (e : Ending) (w' : World) : Prop := W.grownBy w' (some rb) ∧ RdAt w' rb (restR r) ∧ e = .returned (match r with | some p => val p.1 | none => z)
theorem rd_err (rb : Nat) (A : Option Addr) (n c : Nat) (e : Int) (W : World) (hb : W.heap[rb]? = some (.cells #[.slice A n c, .int .i64 e] 151)) : Calls Tryz.prog 100 #[.pointer (some ⟨rb, 0, none⟩)] W (RetV (.int .i64 e) W) := by
 have s1 := cell_of_row _ _ 1 _ _ _ hb
 go_enter Tryz.func100, Tryz.ntmps100
 go_wp2_with fail
 go_ret
 exact ⟨rfl, Below.refl _ _⟩
theorem row_set {W : World} {rb : Nat} {A : Option Addr} {n c : Nat} {e : Int} (hb : W.heap[rb]? = some (.cells #[.slice A n c, .int .i64 e] 151)) (e' : Int) : W.grownBy (W.setCell ⟨rb, 1, none⟩ (.int .i64 e')) (some rb) ∧ (W.setCell ⟨rb, 1, none⟩ (.int .i64 e')).heap[rb]? = some (.cells #[.slice A n c, .int .i64 e'] 151) := by
 refine ⟨grown_set _ _ _ _, ?_⟩
 rw [setCell_eq_setRow W rb 1 _ 151 _ _ hb]
 exact setRow_heap W _ _ _ 151 _ hb
theorem row_set0 {W : World} {rb : Nat} {A : Option Addr} {n c : Nat} {e : Int} (hb : W.heap[rb]? = some (.cells #[.slice A n c, .int .i64 e] 151)) (A' : Option Addr) (n' c' : Nat) : W.grownBy (W.setCell ⟨rb, 0, none⟩ (.slice A' n' c')) (some rb) ∧ (W.setCell ⟨rb, 0, none⟩ (.slice A' n' c')).heap[rb]? = some (.cells #[.slice A' n' c', .int .i64 e] 151) := by
 refine ⟨grown_set _ _ _ _, ?_⟩
 rw [setCell_eq_setRow W rb 0 _ 151 _ _ hb]
 exact setRow_heap W _ _ _ 151 _ hb
theorem rd_fail (rb : Nat) (A : Option Addr) (n c : Nat) (e e' : Int) (W : World) (hb : W.heap[rb]? = some (.cells #[.slice A n c, .int .i64 e] 151)) : Calls Tryz.prog 120 #[.pointer (some ⟨rb, 0, none⟩), .int .i64 e'] W fun e1 w' => e1 = .returned (.int .u64 0) ∧ W.grownBy w' (some rb) ∧ w'.heap[rb]? = some (.cells #[.slice A n c, .int .i64 e'] 151) := by
 have s1 := cell_of_row _ _ 1 _ _ _ hb
 have z1 := frozen_of_row _ _ 1 _ _ hb
 have HR := Lib.hid (row_set hb e')
 clear hb
 go_enter Tryz.func120, Tryz.ntmps120
 go_wp2_with fail
 go_ret
 exact ⟨rfl, HR.out⟩
end Go.Proofs.YtcgpflkaejbkhaaGreatDoor
namespace Go.Proofs.YtcgpflkaejbkhaaGreatDoor
open Go.RowKit

theorem grownB {W W' : World} (hB : Below W.heap.size W W') (r : Option Nat) : W.grownBy W' r := ⟨hB.os, hB.tape, hB.output, hB.size, fun k hk _ => hB.block k hk⟩
theorem takeN_bad {k acc : Nat} {c : UInt8} {l : List UInt8} (h : (k = 9 ∧ 1 < c.toNat) ∨ (c.toNat = 0 ∧ 0 < k)) : takeN k acc (c :: l) = none := by
 unfold takeN
 rcases h with h | h
 · rw [if_pos h]
 · rw [if_neg (by omega), if_neg (by omega), if_pos h]
theorem takeN_more {k acc : Nat} {c : UInt8} {l : List UInt8} (h : ¬ (k = 9 ∧ 1 < c.toNat)) (h1 : 128 ≤ c.toNat) : takeN k acc (c :: l) = takeN (k + 1) (acc + c.toNat % 128 * 128 ^ k) l := by
 rw [takeN, if_neg h, if_pos h1]
theorem takeN_end {k acc : Nat} {c : UInt8} {l : List UInt8} (h : ¬ (k = 9 ∧ 1 < c.toNat)) (h1 : c.toNat < 128) (h2 : ¬ (c.toNat = 0 ∧ 0 < k)) : takeN k acc (c :: l) = some (acc + c.toNat % 128 * 128 ^ k, l) := by
 rw [takeN, if_neg h, if_neg (by omega), if_neg h2]
theorem add_bits {k acc : Nat} {z : Int} {d : Nat} (hz : z = (d : Int)) (ha : acc < 128 ^ k) (hv : acc + d % 128 * 128 ^ k < 2 ^ 64) : bits .or .u64 ((acc : Nat) : Int) (IntKind.u64.wrap (z % 128 * 2 ^ (7 * k))) = ((acc + d % 128 * 128 ^ k : Nat) : Int) := by
 have e : z % 128 * 2 ^ (7 * k) = ((d % 128 * 128 ^ k : Nat) : Int) := by
   rw [hz]
   have e1 : (128 : Nat) ^ k = 2 ^ (7 * k) := by rw [Nat.pow_mul]
   rw [e1]
   simp
 rw [e, IntWalk.u64_in _ ⟨by omega, by omega⟩]
 exact or_step ha (Nat.mod_lt _ (by omega)) hv
theorem more_lt {k acc d : Nat} (ha : acc < 128 ^ k) : acc + d % 128 * 128 ^ k < 128 ^ (k + 1) := by
 rw [Nat.pow_succ]
 have : d % 128 * 128 ^ k ≤ 127 * 128 ^ k := Nat.mul_le_mul_right _ (by have := Nat.mod_lt d (by omega : 0 < 128); omega)
 omega
theorem BtAt.drop {w : World} {b off : Nat} {l : List UInt8} (h : BtAt w (some ⟨b, off, none⟩) l) (k : Nat) : BtAt w (some ⟨b, off + k, none⟩) (l.drop k) := by
 refine ⟨Nat.le_trans (by rw [List.length_drop]; omega) h.1, ?_⟩
 rcases h.2 with h0 | ⟨g, o, h1, h2, h3⟩
 · subst h0; exact Or.inl (by simp)
 · cases h1
   exact Or.inr ⟨b, off + k, rfl, h2, fun i c hi => by
     rw [List.getElem?_drop] at hi
     have := h3 _ _ hi
     rwa [← Nat.add_assoc] at this⟩
theorem BtAt.nil (w : World) (A : Option Addr) : BtAt w A [] := ⟨Nat.zero_le _, Or.inl rfl⟩
theorem RdAt.moved {W w' : World} {rb b off k c : Nat} {l : List UInt8} {A' : Option Addr} (h : BtAt W (some ⟨b, off, none⟩) l) (hne : b < rb) (hk : k ≤ l.length) (hc : l.length ≤ c) (hA : A' = some ⟨b, off + k, none⟩ ∨ (l.length = k ∧ A' = some ⟨b, off, none⟩)) (hg : W.grownBy w' (some rb)) (hr : w'.heap[rb]? = some (.cells #[.slice A' (l.length - k) (c - k), .int .i64 0] 151)) : RdAt w' rb (some (l.drop k)) := by
 refine ⟨A', l.length - k, c - k, 0, hr, rfl, by rw [List.length_drop], by omega, ?_⟩
 rcases hA with rfl | ⟨h1, rfl⟩
 · exact ⟨b, off + k, rfl, hne, (h.drop k).grown hg (fun a ha e => by cases ha; exact Nat.ne_of_lt hne (Option.some.inj e).symm)⟩
 · exact ⟨b, off, rfl, hne, by rw [List.drop_eq_nil_of_le (by omega)]; exact BtAt.nil _ _⟩
set_option maxRecDepth 100000 in
set_option maxHeartbeats 4000000 in
theorem rd_num (rb : Nat) (st : Rd) (W : World) (h : RdAt W rb st) : Calls Tryz.prog 101 #[.pointer (some ⟨rb, 0, none⟩)] W (RdP W rb (numR st) (fun v => .int .u64 (v : Nat)) (.int .u64 0)) := by
 obtain ⟨A, n, c, e, hb, hm⟩ := h
 have HE := Lib.hid (show ∀ w', Below W.heap.size W w' → Calls Tryz.prog 100 #[.pointer (some ⟨rb, 0, none⟩)] w' (RetV (.int .i64 e) w') from fun w' hB => rd_err rb A n c e w' ((hB.block _ (heap_lt hb)).trans hb))
 cases st with
 | none =>
   have r1 : (e != 0) = true := bne_iff_ne.2 hm
   have HP := Lib.hid (show ∀ w', Below W.heap.size W w' → RdP W rb (numR none) (fun v => .int .u64 (v : Nat)) (.int .u64 0) (.returned (.int .u64 0)) w' from fun w' hB => ⟨grownB hB _, ⟨A, n, c, e, (hB.block _ (heap_lt hb)).trans hb, hm⟩, rfl⟩)
   clear hb hm
   go_enter Tryz.func101, Tryz.ntmps101
   go_wp2_with (first
     | (go_at_call 100; (with_reducible refine (HE.out _ (Below.refl _ _)).mono ?_); rintro e w1 ⟨rfl, hB1⟩
        have HB1 := Lib.hid hB1
        clear hB1)
     | fail)
   go_ret
   exact HP.out _ HB1.out
 | some l =>
   obtain ⟨rfl, hn, hnc, b, off, rfl, hne, hA⟩ := hm
   have HB := Lib.hid hb
   have HA := Lib.hid hA
   have HNE := Lib.hid hne
   have hl63 : l.length ≤ 9223372036854775807 := by have := hA.1; unfold maxLen at this; omega
   subst hn
   have HF := Lib.hid (show ∀ (e' : Int) w', e' ≠ 0 → numR (some l) = none → Below W.heap.size W w' → Calls Tryz.prog 120 #[.pointer (some ⟨rb, 0, none⟩), .int .i64 e'] w' fun e1 w2 => e1 = .returned (.int .u64 0) ∧ Hid (RdP W rb (numR (some l)) (fun v => .int .u64 (v : Nat)) (.int .u64 0) (.returned (.int .u64 0)) w2) from fun e' w' he hnn hB => (rd_fail rb _ l.length c 0 e' w' ((hB.block _ (heap_lt hb)).trans hb)).mono fun e1 w2 ⟨h1, h2, h3⟩ => ⟨h1, Lib.hid ⟨(grownB hB _).trans h2, by rw [hnn]; exact ⟨_, _, c, e', h3, he⟩, by rw [hnn]⟩⟩)
   clear hb hA hne
   go_enter Tryz.func101, Tryz.ntmps101
   go_wp2_with (first
     | (go_at_call 100; (with_reducible refine (HE.out _ (Below.refl _ _)).mono ?_); rintro e w1 ⟨rfl, hB1⟩
        have HB1 := Lib.hid hB1
        clear hB1)
     | fail)
   go_loopw [3, 4, 10] (fun x sh i wr => ∃ (k acc : Nat), k ≤ l.length ∧ k ≤ 9 ∧ i = .int .i64 k ∧ sh = .int .i64 (7 * k : Nat) ∧ x = .int .u64 acc ∧ acc < 128 ^ k ∧ numR (some l) = takeN k acc (l.drop k) ∧ Hid (Below W.heap.size W wr)) (fun _ _ i _ => 10 - (intOf i).toNat)
   case atStart => exact ⟨0, 0, Nat.zero_le _, Nat.zero_le _, rfl, rfl, rfl, by decide, rfl, HB1⟩
   case round =>
     obtain ⟨k, acc, hk, hk9, rfl, rfl, rfl, hacc, hnum, HW⟩ := hrel
     obtain ⟨wo, rfl⟩ : ∃ wo : World, wo = wr := ⟨_, rfl⟩
     have HNUM := Lib.hid hnum
     have hb := (HW.out.block _ (heap_lt HB.out)).trans HB.out
     have HBO := Lib.hid hb
     have r0 := cell_of_row _ _ 0 _ _ _ hb
     have z0 := frozen_of_row _ _ 0 _ _ hb
     have hk10 : ((k : Int) < 10) = True := eq_true (by omega)
     clear hb hnum
     by_cases hkn : k < l.length
     · have hd : l.drop k = l[k] :: l.drop (k + 1) := List.drop_eq_getElem_cons hkn
       have hgt := List.getElem?_eq_getElem hkn
       obtain ⟨hlt, hcell⟩ : b < W.heap.size ∧ W.cell? ⟨b, off + k, none⟩ = some (byV l[k]) := by
         rcases HA.out.2 with h0 | ⟨b', off', h1, h2, h3⟩
         · subst h0; simp at hkn
         · cases h1; exact ⟨h2, h3 k _ hgt⟩
       generalize hcc : l[k] = ch at hd hcell hgt
       have HD := Lib.hid hd
       clear hd
       obtain ⟨z, hz⟩ : ∃ z : Int, z = (ch.toNat : Int) := ⟨_, rfl⟩
       have HZ := Lib.hid hz
       have m0 : wo.cell? ⟨b, off + k, none⟩ = some (.int .u8 z) := ((HW.out.cell (p := ⟨b, off + k, none⟩) hlt).trans hcell).trans (by rw [hz]; rfl)
       have hkn2 : ((k : Int) == (l.length : Int)) = false := beq_eq_false_iff_ne.2 (by omega)
       have hkn3 : ((k : Int) < (l.length : Int)) = True := eq_true (by omega)
       have hz0 : 0 ≤ z ∧ z ≤ 255 := by have := ch.toNat_lt; omega
       have hzm : z.tmod 128 = z % 128 := Int.tmod_eq_emod_of_nonneg hz0.1
       clear hcell hgt hcc
       by_cases hb9 : k = 9 ∧ 1 < ch.toNat
       · have q1 : ((k : Int) == 9) = true := beq_iff_eq.2 (by omega)
         have q2 : ((k : Int) = 9) = True := eq_true (by omega)
         have q3 : (1 < z) = True := eq_true (by omega)
         have HNN := Lib.hid (show numR (some l) = none by rw [HNUM.out, HD.out]; exact takeN_bad (Or.inl hb9))
         clear hz hb9
         go_wp2_with (first
           | (go_at_call 120; (with_reducible refine (HF.out _ _ (by decide) HNN.out HW.out).mono ?_); rintro e w2 ⟨rfl, HP⟩)
           | fail)
         go_ret
         exact HP.out
       · by_cases hbig : 128 ≤ ch.toNat
         · have q1 : ((k : Int) == 9) = false := beq_eq_false_iff_ne.2 (by omega)
           have q2 : ((k : Int) = 9) = False := eq_false (by omega)
           have q3 : (128 ≤ z) = True := eq_true (by omega)
           have q4 : (z < 128) = False := eq_false (by omega)
           have HNX := Lib.hid (show numR (some l) = takeN (k + 1) (acc + ch.toNat % 128 * 128 ^ k) (l.drop (k + 1)) by rw [HNUM.out, HD.out]; exact takeN_more hb9 hbig)
           have hml := more_lt (d := ch.toNat) hacc
           have h63 : (128 : Nat) ^ (k + 1) ≤ 128 ^ 9 := Nat.pow_le_pow_right (by omega) (by omega)
           have e63 : (128 : Nat) ^ 9 = 9223372036854775808 := by decide
           have HAB := Lib.hid (add_bits (z := z) hz hacc (by omega))
           have HML := Lib.hid hml
           have hk8 : k ≤ 8 := by omega
           clear hz hb9 hbig hml h63 e63 hacc
           go_wp2_with fail
           go_roundw
           case rel => exact ⟨k + 1, _, by omega, by omega, by go_num, by go_num, by rw [HAB.out], HML.out, HNX.out, HW⟩
           case measure => simp [intOf] <;> omega
         · by_cases hze : ch.toNat = 0 ∧ 0 < k
           · have q1 : ((k : Int) == 9) = decide (k = 9) := by
               by_cases h : k = 9
               · rw [beq_iff_eq.2 (by omega), decide_eq_true h]
               · rw [beq_eq_false_iff_ne.2 (by omega), decide_eq_false h]
             have q3 : (1 < z) = False := eq_false (by omega)
             have q4 : (128 ≤ z) = False := eq_false (by omega)
             have q5 : z = 0 := by omega
             have q6 : (0 < (k : Int)) = True := eq_true (by omega)
             have q7 : (0 < k) = True := eq_true (by omega)
             have HNN := Lib.hid (show numR (some l) = none by rw [HNUM.out, HD.out]; exact takeN_bad (Or.inr hze))
             clear hz hb9 hze
             go_wp2_with (first
               | (go_at_call 120; (with_reducible refine (HF.out _ _ (by decide) HNN.out HW.out).mono ?_); rintro e w2 ⟨rfl, HP⟩)
               | fail)
             all_goals (go_ret; exact HP.out)
           · have HOK := Lib.hid (show numR (some l) = some (acc + ch.toNat % 128 * 128 ^ k, l.drop (k + 1)) by rw [HNUM.out, HD.out]; exact takeN_end hb9 (by omega) hze)
             have HAB := Lib.hid (add_bits (z := z) hz hacc (numR_lt HOK.out))
             have FIN := Lib.hid (show ∀ (A' : Option Addr) (c' : Nat), c' = c - (k + 1) → (A' = some ⟨b, off + (k + 1), none⟩ ∨ (l.length = k + 1 ∧ A' = some ⟨b, off, none⟩)) → RdP W rb (numR (some l)) (fun v => .int .u64 (v : Nat)) (.int .u64 0) (.returned (.int .u64 (bits .or .u64 ((acc : Nat) : Int) (IntKind.u64.wrap (z % 128 * 2 ^ (7 * k)))))) (wo.setCell ⟨rb, 0, none⟩ (.slice A' (l.length - (k + 1)) c')) from by
               intro A' c' hc' hA'
               subst hc'
               obtain ⟨g1, g2⟩ := row_set0 HBO.out A' (l.length - (k + 1)) (c - (k + 1))
               have hg := (grownB HW.out (some rb)).trans g1
               refine ⟨hg, ?_, ?_⟩
               · rw [HOK.out]; exact RdAt.moved HA.out HNE.out (by omega) hnc hA' hg g2
               · rw [HOK.out, HAB.out])
             by_cases hz9 : z = 0
             · have h9 : k ≠ 9 := by omega
               have q1 : ((k : Int) == 9) = false := beq_eq_false_iff_ne.2 (by omega)
               have q2 : ((k : Int) = 9) = False := eq_false (by omega)
               have q4 : (128 ≤ z) = False := eq_false (by omega)
               have q4b : (z < 128) = True := eq_true (by omega)
               have q5 : (z == 0) = true := beq_iff_eq.2 (by omega)
               have q6 : (z = 0) = True := eq_true (by omega)
               have q7 : (0 < (k : Int)) = False := eq_false (by omega)
               have q8 : (0 < k) = False := eq_false (by omega)
               clear hz hb9 hze hacc hbig hz9 h9
               go_wp2_with fail
               all_goals (go_ret; first | exact FIN.out _ _ (by omega) (Or.inl rfl) | exact FIN.out _ _ (by omega) (Or.inr ⟨by omega, rfl⟩))
             · by_cases h9 : k = 9
               · have q1 : ((k : Int) == 9) = true := beq_iff_eq.2 (by omega)
                 have q2 : ((k : Int) = 9) = True := eq_true (by omega)
                 have q3 : (1 < z) = False := eq_false (by omega)
                 have q4 : (128 ≤ z) = False := eq_false (by omega)
                 have q4b : (z < 128) = True := eq_true (by omega)
                 have q5 : (z == 0) = false := beq_eq_false_iff_ne.2 (by omega)
                 have q6 : (z = 0) = False := eq_false (by omega)
                 clear hz hb9 hze hacc hbig h9 hz9
                 go_wp2_with fail
                 all_goals (go_ret; first | exact FIN.out _ _ (by omega) (Or.inl rfl) | exact FIN.out _ _ (by omega) (Or.inr ⟨by omega, rfl⟩))
               · have q1 : ((k : Int) == 9) = false := beq_eq_false_iff_ne.2 (by omega)
                 have q2 : ((k : Int) = 9) = False := eq_false (by omega)
                 have q4 : (128 ≤ z) = False := eq_false (by omega)
                 have q4b : (z < 128) = True := eq_true (by omega)
                 have q5 : (z == 0) = false := beq_eq_false_iff_ne.2 (by omega)
                 have q6 : (z = 0) = False := eq_false (by omega)
                 clear hz hb9 hze hacc hbig h9 hz9
                 go_wp2_with fail
                 all_goals (go_ret; first | exact FIN.out _ _ (by omega) (Or.inl rfl) | exact FIN.out _ _ (by omega) (Or.inr ⟨by omega, rfl⟩))
     · obtain rfl : l.length = k := by omega
       have hkk : ((l.length : Int) == (l.length : Int)) = true := beq_self_eq_true _
       have HNN := Lib.hid (show numR (some l) = none by rw [HNUM.out, List.drop_length]; rfl)
       clear hacc
       go_wp2_with (first
         | (go_at_call 120; (with_reducible refine (HF.out _ _ (by decide) HNN.out HW.out).mono ?_); rintro e w2 ⟨rfl, HP⟩)
         | fail)
       go_ret
       exact HP.out
end Go.Proofs.YtcgpflkaejbkhaaGreatDoor
namespace Go.Proofs.YtcgpflkaejbkhaaGreatDoor
open Go.RowKit

theorem rd_int (rb : Nat) (st : Rd) (W : World) (h : RdAt W rb st) : Calls Tryz.prog 76 #[.pointer (some ⟨rb, 0, none⟩)] W (RdP W rb (intR st) (fun v => .int .i64 v) (.int .i64 0)) := by
 have HN := Lib.hid (rd_num rb st W h)
 have HI := Lib.hid (show intR st = (numR st).map fun p => (if p.1 % 2 = 1 then -((p.1 / 2 : Nat) : Int) - 1 else ((p.1 / 2 : Nat) : Int), p.2) from rfl)
 clear h
 cases hn : numR st with
 | none =>
   rw [hn] at HN HI
   go_enter Tryz.func76, Tryz.ntmps76
   go_wp2_with (first
     | (go_at_call 101; (with_reducible refine Calls.mono HN.out ?_); rintro e w2 ⟨hg, ha, rfl⟩
        have HG := Lib.hid hg
        have HA := Lib.hid ha
        clear hg ha)
     | fail)
   go_ret
   exact ⟨HG.out, by rw [HI.out]; exact HA.out, by rw [HI.out]; rfl⟩
 | some p =>
   obtain ⟨v, l'⟩ := p
   have hv := numR_lt hn
   rw [hn] at HN HI
   obtain ⟨q, hq⟩ : ∃ q : Nat, q = v / 2 := ⟨_, rfl⟩
   have hq63 : q < 2 ^ 63 := by omega
   by_cases ho : v % 2 = 1
   · have r1 : ((v : Int).tmod 2) = 1 := by rw [Int.tmod_eq_emod_of_nonneg (by omega)]; omega
     have r1b : (v : Int) % 2 = 1 := by omega
     have r2 : ((v : Int).tdiv 2) = (q : Int) := by rw [Int.tdiv_eq_ediv_of_nonneg (by omega)]; omega
     have r2b : (v : Int) / 2 = (q : Int) := by omega
     have r3 : IntKind.i64.wrap (q : Int) = (q : Int) := IntWalk.i64_in _ (by omega)
     have r4 : IntKind.i64.wrap (-(q : Int)) = -(q : Int) := IntWalk.i64_in _ (by omega)
     have r5 : IntKind.i64.wrap (-(q : Int) - 1) = -(q : Int) - 1 := IntWalk.i64_in _ (by omega)
     have HI2 := Lib.hid (show intR st = some (-(q : Int) - 1, l') by rw [HI.out]; simp only [Option.map_some, if_pos ho]; rw [← hq])
     clear hv hq ho
     go_enter Tryz.func76, Tryz.ntmps76
     go_wp2_with (first
       | (go_at_call 101; (with_reducible refine Calls.mono HN.out ?_); rintro e w2 ⟨hg, ha, rfl⟩
          have HG := Lib.hid hg
          have HA := Lib.hid ha
          clear hg ha)
       | fail)
     go_ret
     exact ⟨HG.out, by rw [HI2.out]; exact HA.out, by rw [HI2.out]; rfl⟩
   · have r1 : ((v : Int).tmod 2) = 0 := by rw [Int.tmod_eq_emod_of_nonneg (by omega)]; omega
     have r1b : (v : Int) % 2 = 0 := by omega
     have r2 : ((v : Int).tdiv 2) = (q : Int) := by rw [Int.tdiv_eq_ediv_of_nonneg (by omega)]; omega
     have r2b : (v : Int) / 2 = (q : Int) := by omega
     have r3 : IntKind.i64.wrap (q : Int) = (q : Int) := IntWalk.i64_in _ (by omega)
     have HI2 := Lib.hid (show intR st = some ((q : Int), l') by rw [HI.out]; simp only [Option.map_some, if_neg ho]; rw [← hq])
     clear hv hq ho
     go_enter Tryz.func76, Tryz.ntmps76
     go_wp2_with (first
       | (go_at_call 101; (with_reducible refine Calls.mono HN.out ?_); rintro e w2 ⟨hg, ha, rfl⟩
          have HG := Lib.hid hg
          have HA := Lib.hid ha
          clear hg ha)
       | fail)
     go_ret
     exact ⟨HG.out, by rw [HI2.out]; exact HA.out, by rw [HI2.out]; rfl⟩
theorem RdAt.bad {W : World} {rb : Nat} {A : Option Addr} {n c : Nat} {e : Int} (h : W.heap[rb]? = some (.cells #[.slice A n c, .int .i64 e] 151)) (he : e ≠ 0) : RdAt W rb none := ⟨A, n, c, e, h, he⟩
theorem RdAt.row {W : World} {rb : Nat} {st : Rd} (h : RdAt W rb st) : ∃ (A : Option Addr) (n c : Nat) (e : Int), W.heap[rb]? = some (.cells #[.slice A n c, .int .i64 e] 151) ∧ (st = none → e ≠ 0) ∧ (∀ l, st = some l → e = 0 ∧ n = l.length ∧ n ≤ c ∧ ∃ b off, A = some ⟨b, off, none⟩ ∧ b < rb ∧ BtAt W A l) := by
 obtain ⟨A, n, c, e, h1, h2⟩ := h
 refine ⟨A, n, c, e, h1, fun hs => ?_, fun l hs => ?_⟩
 · subst hs; exact h2
 · subst hs; exact h2
theorem rd_count (most : Nat) (hmost : most ≤ 1000000) (rb : Nat) (st : Rd) (W : World) (h : RdAt W rb st) : Calls Tryz.prog 73 #[.pointer (some ⟨rb, 0, none⟩), .int .i64 most] W (RdP W rb (countR most st) (fun v => .int .i64 (v : Nat)) (.int .i64 0)) := by
 have HI := Lib.hid (show countR most st = (numR st).bind fun p => if most < p.1 then none else some p from rfl)
 obtain ⟨A, n, c, e, hb, he0, he1⟩ := h.row
 have HE := Lib.hid (show ∀ w', Below W.heap.size W w' → Calls Tryz.prog 100 #[.pointer (some ⟨rb, 0, none⟩)] w' (RetV (.int .i64 e) w') from fun w' hB => rd_err rb A n c e w' ((hB.block _ (heap_lt hb)).trans hb))
 have HN := Lib.hid (show ∀ w', Below W.heap.size W w' → Calls Tryz.prog 101 #[.pointer (some ⟨rb, 0, none⟩)] w' (RdP w' rb (numR st) (fun v => .int .u64 (v : Nat)) (.int .u64 0)) from fun w' hB => rd_num rb st w' (h.keep hB))
 have HB := Lib.hid hb
 have HH := Lib.hid h
 cases st with
 | none =>
   have r1 : (e != 0) = true := bne_iff_ne.2 (he0 rfl)
   clear hb he0 he1 h
   go_enter Tryz.func73, Tryz.ntmps73
   go_wp2_with (first
     | (go_at_call 100; (with_reducible refine (HE.out _ (Below.refl _ _)).mono ?_); rintro e w1 ⟨rfl, hB1⟩
        have HB1 := Lib.hid hB1
        clear hB1)
     | fail)
   go_ret
   exact ⟨grownB HB1.out _, HH.out.keep HB1.out, rfl⟩
 | some l =>
   obtain ⟨rfl, hnl, hnc, b, off, rfl, hne, hA⟩ := he1 l rfl
   clear he0 he1 h
   cases hn : numR (some l) with
   | none =>
     rw [hn] at HN HI
     clear hb hA hn
     go_enter Tryz.func73, Tryz.ntmps73
     go_wp2_with (first
       | (go_at_call 100; (with_reducible refine (HE.out _ (Below.refl _ _)).mono ?_); rintro e w1 ⟨rfl, hB1⟩
          have HB1 := Lib.hid hB1
          have r0 := cell_of_row _ _ 0 _ _ _ ((hB1.block _ (heap_lt HB.out)).trans HB.out)
          clear hB1)
       | (go_at_call 101; (with_reducible refine (HN.out _ HB1.out).mono ?_); rintro e w2 ⟨hg, ha, rfl⟩
          have HG := Lib.hid ((grownB HB1.out (some rb)).trans hg)
          have HA := Lib.hid ha
          obtain ⟨A2, n2, c2, e2, hb2, h2, _⟩ := ha.row
          have r1 : (e2 == 0) = false := beq_eq_false_iff_ne.2 (h2 rfl)
          clear r0
          have r0 := cell_of_row _ _ 1 _ _ _ hb2
          clear hg ha h2 hb2)
       | fail)
     go_ret
     exact ⟨HG.out, by rw [HI.out]; exact HA.out, by rw [HI.out]; rfl⟩
   | some p =>
     obtain ⟨v, l'⟩ := p
     have hv := numR_lt hn
     rw [hn] at HN HI
     clear hb hA hn
     have HLN := Lib.hid (⟨hnl, hnc⟩ : n = l.length ∧ n ≤ c)
     have q0 : ((most : Int) < 0) = False := eq_false (by omega)
     have q1 : IntKind.u64.wrap (most : Int) = (most : Int) := IntWalk.u64_in _ ⟨by omega, by omega⟩
     by_cases hmv : most < v
     · have q2 : ((most : Int) < (v : Int)) = True := eq_true (by omega)
       have q3 : (most < v) = True := eq_true hmv
       have HI2 := Lib.hid (show countR most (some l) = none by rw [HI.out]; simp only [Option.bind_some, if_pos hmv])
       clear hmv hnl
       go_enter Tryz.func73, Tryz.ntmps73
       go_wp2_with (first
         | (go_at_call 100; (with_reducible refine (HE.out _ (Below.refl _ _)).mono ?_); rintro e w1 ⟨rfl, hB1⟩
            have HB1 := Lib.hid hB1
            have r0 := cell_of_row _ _ 0 _ _ _ ((hB1.block _ (heap_lt HB.out)).trans HB.out)
            clear hB1)
         | (go_at_call 101; (with_reducible refine (HN.out _ HB1.out).mono ?_); rintro e w2 ⟨hg, ha, rfl⟩
            have HG := Lib.hid ((grownB HB1.out (some rb)).trans hg)
            obtain ⟨A2, n2, c2, e2, hb2, _, h2⟩ := ha.row
            obtain ⟨rfl, _, _⟩ := h2 _ rfl
            have HB2 := Lib.hid hb2
            clear r0
            have r1 := cell_of_row _ _ 1 _ _ _ hb2
            have r0 := cell_of_row _ _ 0 _ _ _ hb2
            have z0 := frozen_of_row _ _ 0 _ _ hb2
            have z1 := frozen_of_row _ _ 1 _ _ hb2
            clear hg ha h2 hb2)
         | fail)
       go_ret
       obtain ⟨g1, g2⟩ := row_set0 HB2.out (some ⟨b, off, none⟩) n c
       obtain ⟨g3, g4⟩ := row_set g2 11
       exact ⟨(HG.out.trans g1).trans g3, by rw [HI2.out]; exact RdAt.bad g4 (by decide), by rw [HI2.out]; rfl⟩
     · have q2 : ((most : Int) < (v : Int)) = False := eq_false (by omega)
       have q3 : (most < v) = False := eq_false hmv
       have q4 : IntKind.i64.wrap (v : Int) = (v : Int) := IntWalk.i64_in _ (by omega)
       have HI2 := Lib.hid (show countR most (some l) = some (v, l') by rw [HI.out]; simp only [Option.bind_some, if_neg hmv])
       clear hnl
       go_enter Tryz.func73, Tryz.ntmps73
       go_wp2_with (first
         | (go_at_call 100; (with_reducible refine (HE.out _ (Below.refl _ _)).mono ?_); rintro e w1 ⟨rfl, hB1⟩
            have HB1 := Lib.hid hB1
            have r0 := cell_of_row _ _ 0 _ _ _ ((hB1.block _ (heap_lt HB.out)).trans HB.out)
            clear hB1)
         | (go_at_call 101; (with_reducible refine (HN.out _ HB1.out).mono ?_); rintro e w2 ⟨hg, ha, rfl⟩
            have HG := Lib.hid ((grownB HB1.out (some rb)).trans hg)
            have HA := Lib.hid ha
            obtain ⟨A2, n2, c2, e2, hb2, _, h2⟩ := ha.row
            obtain ⟨rfl, _, _⟩ := h2 _ rfl
            clear r0
            have r0 := cell_of_row _ _ 1 _ _ _ hb2
            clear hg ha h2 hb2)
         | fail)
       go_ret
       exact ⟨HG.out, by rw [HI2.out]; exact HA.out, by rw [HI2.out]; rfl⟩
end Go.Proofs.YtcgpflkaejbkhaaGreatDoor
