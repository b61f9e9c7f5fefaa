/- The walks of the writers of the package wire: Num, Int, Bool, Text. -/
import Derived.Test.YtcgpflkaejbkhaaGreatDoorQAX
import Derived.Test.YtcgpflkaejbkhaaGreatDoorQAM
import Derived.Test.YtcgpflkaejbkhaaGreatDoorQAN
import Derived.Lib.AppendStr
import Derived.Handy
namespace Go.Proofs.YtcgpflkaejbkhaaGreatDoor
open Go.RowKit

def numB (n : Nat) : List UInt8 := if n < 128 then [UInt8.ofNat n] else UInt8.ofNat (n % 128 + 128) :: numB (n / 128)
termination_by n
decreasing_by omega
theorem numB_low {n : Nat} (h : n < 128) : numB n = [UInt8.ofNat n] := by rw [numB, if_pos h]
theorem numB_high {n : Nat} (h : ¬ n < 128) : numB n = UInt8.ofNat (n % 128 + 128) :: numB (n / 128) := by rw [numB, if_neg h]
theorem numB_len (k : Nat) : ∀ n : Nat, n < 128 ^ (k + 1) → (numB n).length ≤ k + 1 := by
 induction k with
 | zero => intro n h; rw [numB_low (by omega)]; exact Nat.le_refl _
 | succ k ih =>
   intro n h
   by_cases hn : n < 128
   · rw [numB_low hn]; simp
   · rw [numB_high hn, List.length_cons]
     have := ih (n / 128) (by rw [Nat.pow_succ] at h; exact Nat.div_lt_of_lt_mul (by rw [Nat.mul_comm]; exact h))
     omega
theorem numB_ten {n : Nat} (h : n < 2 ^ 64) : (numB n).length ≤ 10 := numB_len 9 n (Nat.lt_of_lt_of_le h (by decide))
theorem byV_ofNat {n : Nat} (h : n < 256) : byV (UInt8.ofNat n) = .int .u8 (n : Int) := by
 unfold byV
 rw [UInt8.toNat_ofNat_of_lt' (by exact h)]
def OwnB (W : World) (base : Nat) (v : Value) (l : List UInt8) : Prop := W.ownsRow base 5 1 v l.length (l.map byV)
theorem OwnB.nil (W : World) (base : Nat) : OwnB W base (.slice none 0 0) [] := World.ownsRow_nil _ _ _ _
theorem OwnB.keep {W W' : World} {base : Nat} {v : Value} {l : List UInt8} (h : OwnB W base v l) (hB : Below W.heap.size W W') : OwnB W' base v l := own_kept h hB (Nat.le_refl _)
theorem OwnB.slice {W : World} {base : Nat} {v : Value} {l : List UInt8} (h : OwnB W base v l) (hl : l ≠ []) : ∃ g cap, v = .slice (some ⟨g, 0, none⟩) l.length cap ∧ base ≤ g ∧ g < W.heap.size := by
 obtain ⟨g, cap, rfl⟩ := own_slice' (n := l.length) (by simpa using hl) h
 have := h.lt g rfl
 exact ⟨g, cap, rfl, this.1, this.2⟩
theorem OwnB.cells {W : World} {base : Nat} {l : List UInt8} {g cap : Nat} (h : OwnB W base (.slice (some ⟨g, 0, none⟩) l.length cap) l) : ∀ (j : Nat) (b : UInt8), l[j]? = some b → W.cell? ((⟨g, 0, none⟩ : Addr).add j) = some (byV b) := by
 intro j b hj
 exact World.ownsRow.cells h (g := g) rfl j _ (by rw [List.getElem?_map, hj]; rfl)
theorem infoB : (Tryz.prog.info? 5).map (fun i => (i.zero, i.size, i.bytes)) = some (some (.int .u8 0), 1, 1) := by kernel_rfl
def NewB (w : World) (l : List UInt8) (e : Ending) (w' : World) : Prop := ∃ v, e = .returned v ∧ Below w.heap.size w w' ∧ OwnB w' w.heap.size v l
theorem app_bytes {w : World} {ops : Array Oper} {rest : List Oper} {o : Oper} {a : Act} {Q : Exit → Act → World → Prop} (hgd : o.guard = none) (s x : Operand) (ho : o.op = .call { callee := .builtin .append, args := #[s, x], argTypes := #[55, 55] })
   (base : Nat) (v : Value) (l : List UInt8) (hs : a.eval s = v) (hown : OwnB w base v l) (ad : Addr) (m c : Nat) (l2 : List UInt8) (hm : m = l2.length) (hx : a.eval x = .slice (some ad) m c) (hnews : ∀ (j : Nat) (b : UInt8), l2[j]? = some b → w.cell? (ad.add j) = some (byV b))
   (hl : l.length + l2.length ≤ 100000) (hbase : base ≤ w.heap.size)
   (h : ∀ v' w', OwnB w' base v' (l ++ l2) → w.grownBy w' v.ownBlock → (v'.ownBlock = v.ownBlock ∨ v'.ownBlock = some w.heap.size) → wpList Tryz.prog ops Q rest (a.put o.dst v') w') :
   wpList Tryz.prog ops Q (o :: rest) a w := by
 obtain ⟨i0, hi0, hz0, hz1, hz2⟩ := info_parts infoB
 subst hm
 refine wpList_append_own_at (P := Tryz.prog) w hgd s x 55 ho base 5 i0 (.int .u8 0) 1 1 Tryz.underlying55 hi0 hz0 hz1 hz2 rfl (by omega) v l.length (l.map byV) hs hown ad l2.length c (l2.map byV) hx (by rw [List.length_map, Nat.mul_one]) (fun j u hj => ?_) (fun u hu => ?_) (by unfold maxLen; omega) (by omega) hbase (fun v' w' h1 h2 _ h4 => h v' w' ?_ h2 h4)
 · rw [List.getElem?_map, Option.map_eq_some_iff] at hj
   obtain ⟨b, hb, rfl⟩ := hj
   exact hnews j b hb
 · obtain ⟨b, _, rfl⟩ := List.mem_map.1 hu
   rfl
 · unfold OwnB
   rw [List.length_append, List.map_append]
   exact h1
set_option maxRecDepth 100000 in
set_option maxHeartbeats 4000000 in
theorem wr_num (n : Nat) (w : World) (hn : n < 2 ^ 64) : Calls Tryz.prog 80 #[.int .u64 (n : Int)] w (NewB w (numB n)) := by
 have hn64 : (n : Int) ≤ 18446744073709551615 := by omega
 have HN := Lib.hid hn
 clear hn
 go_enter Tryz.func80, Tryz.ntmps80
 go_wp2_with fail
 go_loopw [0, 3] (fun x v wr => ∃ (m : Nat) (done : List UInt8), m ≤ n ∧ x = .int .u64 (m : Int) ∧ Hid (numB n = done ++ numB m) ∧ Hid (Below w.heap.size w wr) ∧ Hid (OwnB wr w.heap.size v done)) (fun x _ _ => (intOf x).toNat)
 case atStart => exact ⟨n, [], Nat.le_refl _, rfl, Lib.hid rfl, Lib.hid (Below.refl _ _), Lib.hid (OwnB.nil _ _)⟩
 case round =>
   obtain ⟨m, done, hm, rfl, HD, HB, HO⟩ := hrel
   obtain ⟨wo, rfl⟩ : ∃ wo : World, wo = wr := ⟨_, rfl⟩
   have hm64 : (m : Int) ≤ 18446744073709551615 := by omega
   have hlen : done.length + (numB m).length ≤ 10 := by rw [← List.length_append, ← HD.out]; exact numB_ten HN.out
   have HLEN := Lib.hid hlen
   clear hlen
   obtain ⟨r, hr⟩ : ∃ r : Nat, r = m % 128 := ⟨_, rfl⟩
   by_cases hlow : 128 ≤ m
   · have HX := Lib.hid (show numB m = UInt8.ofNat (r + 128) :: numB (m / 128) by rw [hr]; exact numB_high (by omega))
     have q1 : (128 ≤ (m : Int)) = True := eq_true (by omega)
     have q2 : (m : Int).tmod 128 = (r : Int) := by rw [Int.tmod_eq_emod_of_nonneg (by omega)]; omega
     obtain ⟨d, hd⟩ : ∃ d : Nat, d = m / 128 := ⟨_, rfl⟩
     have q3 : (m : Int).tdiv 128 = (d : Int) := by rw [Int.tdiv_eq_ediv_of_nonneg (by omega)]; omega
     have q2b : (m : Int) % 128 = (r : Int) := by omega
     have q3b : (m : Int) / 128 = (d : Int) := by omega
     have hr8 : (r : Int) ≤ 127 := by omega
     have hr0 : 0 ≤ (r : Int) := by omega
     have hdm : d < m := by omega
     rw [← hd] at HX
     obtain ⟨b8, hb8⟩ : ∃ b : UInt8, b = UInt8.ofNat (r + 128) := ⟨_, rfl⟩
     rw [← hb8] at HX
     have HD2 := Lib.hid (show numB n = (done ++ [b8]) ++ numB d by rw [HD.out, HX.out]; simp)
     have HBY := Lib.hid (show byV b8 = .int .u8 ((r : Int) + 128) by rw [hb8, byV_ofNat (by omega)]; simp)
     have hdl := HLEN.out
     rw [HX.out, List.length_cons] at hdl
     have HDL := Lib.hid hdl
     clear hlow hr hd hdl hb8
     go_wp2_with (at_builtin; refine app_bytes rfl _ _ rfl w.heap.size _ done rfl (HO.out.keep (below1 wo _)) ⟨wo.heap.size, 0, none⟩ 1 1 [b8] rfl rfl ?c1 ?c2 ?c3 ?_)
     case c1 =>
       intro j b hj
       have hnew := heap_alloc_new wo (.cells #[.int .u8 ((r : Int) + 128)] 5)
       rw [Addr.add_lit, Nat.zero_add]
       refine (cell_of_row _ _ j _ _ _ hnew).trans ?_
       cases j with
       | zero => obtain rfl : b8 = b := by simpa using hj
                 rw [HBY.out]; rfl
       | succ j => simp at hj
     case c2 => have := HDL.out; simp; omega
     case c3 => have := HB.out.size; simp; omega
     intro v' w1 hown hgrow hat
     have HO2 := Lib.hid hown
     have HB2 := Lib.hid ((HB.out.alloc HB.out.size (.cells #[.int .u8 ((r : Int) + 128)] 5)).grown hgrow (by have := HB.out.size; simp; omega) (fun b hb => (HO.out.lt b hb).1))
     clear hown hgrow hat
     go_wp2_with fail
     go_roundw
     case rel => exact ⟨d, _, by omega, rfl, HD2, HB2, HO2⟩
     case measure => simp [intOf] <;> omega
   · obtain ⟨b8, hb8⟩ : ∃ b : UInt8, b = UInt8.ofNat m := ⟨_, rfl⟩
     have HX := Lib.hid (show numB m = [b8] by rw [hb8]; exact numB_low (by omega))
     have q1 : (128 ≤ (m : Int)) = False := eq_false (by omega)
     have hm8 : (m : Int) ≤ 127 := by omega
     have HBY := Lib.hid (show byV b8 = .int .u8 (m : Int) by rw [hb8]; exact byV_ofNat (by omega))
     have hdl := HLEN.out
     rw [HX.out] at hdl
     have HDL := Lib.hid hdl
     have HD2 := Lib.hid (show numB n = done ++ [b8] by rw [HD.out, HX.out])
     clear hlow hr hdl hb8
     go_wp2_with (at_builtin; refine app_bytes rfl _ _ rfl w.heap.size _ done rfl (HO.out.keep (below1 wo _)) ⟨wo.heap.size, 0, none⟩ 1 1 [b8] rfl rfl ?c1 ?c2 ?c3 ?_)
     case c1 =>
       intro j b hj
       have hnew := heap_alloc_new wo (.cells #[.int .u8 (m : Int)] 5)
       rw [Addr.add_lit, Nat.zero_add]
       refine (cell_of_row _ _ j _ _ _ hnew).trans ?_
       cases j with
       | zero => obtain rfl : b8 = b := by simpa using hj
                 rw [HBY.out]; rfl
       | succ j => simp at hj
     case c2 => have := HDL.out; simp at this ⊢; omega
     case c3 => have := HB.out.size; simp; omega
     intro v' w1 hown hgrow hat
     have HO2 := Lib.hid hown
     have HB2 := Lib.hid ((HB.out.alloc HB.out.size (.cells #[.int .u8 (m : Int)] 5)).grown hgrow (by have := HB.out.size; simp; omega) (fun b hb => (HO.out.lt b hb).1))
     clear hown hgrow hat
     go_wp2_with fail
     go_ret
     exact ⟨v', rfl, HB2.out, by rw [HD2.out]; exact HO2.out⟩
def intB (z : Int) : List UInt8 := numB (2 * z.toNat)
theorem wr_int (z : Int) (w : World) (h0 : 0 ≤ z) (h1 : z ≤ 9223372036854775807) : Calls Tryz.prog 81 #[.int .i64 z] w (NewB w (intB z)) := by
 obtain ⟨k, hk⟩ : ∃ k : Nat, z = (k : Int) := ⟨z.toNat, by omega⟩
 obtain ⟨d, hd⟩ : ∃ d : Nat, d = 2 * k := ⟨_, rfl⟩
 have hi : intB z = numB d := by unfold intB; rw [hk, hd]; rfl
 subst hk
 have HN := Lib.hid (show ∀ W, Calls Tryz.prog 80 #[.int .u64 (d : Int)] W (NewB W (intB (k : Int))) from fun W => by rw [hi]; exact wr_num _ W (by omega))
 have q1 : ((k : Int) < 0) = False := eq_false (by omega)
 have q2 : IntKind.u64.wrap (k : Int) = (k : Int) := IntWalk.u64_in _ ⟨by omega, by omega⟩
 have q3 : IntKind.u64.wrap ((k : Int) * 2) = (d : Int) := by rw [IntWalk.u64_in _ ⟨by omega, by omega⟩]; omega
 clear hi hd
 go_enter Tryz.func81, Tryz.ntmps81
 go_wp2_with (first
   | (go_at_call 80; (with_reducible refine (HN.out _).mono ?_); rintro e w1 ⟨v, rfl, hB, hO⟩
      have HB := Lib.hid hB
      have HO := Lib.hid hO
      clear hB hO)
   | fail)
 go_ret
 exact ⟨v, rfl, HB.out, HO.out⟩
def boolB (x : Bool) : List UInt8 := [if x then 1 else 0]
theorem own_one (w : World) (b : UInt8) (z : Int) (hz : byV b = .int .u8 z) : OwnB (w.alloc (.cells #[.int .u8 z] 5)) w.heap.size (.slice (some ⟨w.heap.size, 0, none⟩) 1 1) [b] := by
 have h := World.ownsRow_lit (base := w.heap.size) (e := 5) (size := 1) w #[.int .u8 z] 1 (Nat.le_refl _) (by unfold maxLen; omega) rfl
 unfold OwnB
 rw [List.map_cons, hz]
 exact h
theorem wr_bool (x : Bool) (w : World) : Calls Tryz.prog 82 #[.bool x] w (NewB w (boolB x)) := by
 cases x with
 | true =>
   go_enter Tryz.func82, Tryz.ntmps82
   go_wp2_with fail
   go_ret
   exact ⟨_, rfl, below1 w _, own_one w 1 1 rfl⟩
 | false =>
   go_enter Tryz.func82, Tryz.ntmps82
   go_wp2_with fail
   go_ret
   exact ⟨_, rfl, below1 w _, own_one w 0 0 rfl⟩
def textB (s : ByteArray) : List UInt8 := numB s.size ++ s.data.toList
theorem strCells_byV (s : ByteArray) : Lib.strCells s = s.data.toList.map byV := by
 unfold Lib.strCells
 rfl
theorem wr_text (s : ByteArray) (w : World) (hs : s.size ≤ 1000) : Calls Tryz.prog 79 #[.string s] w (NewB w (textB s)) := by
 have HN := Lib.hid (show ∀ W, Calls Tryz.prog 80 #[.int .u64 (s.size : Int)] W (NewB W (numB s.size)) from fun W => wr_num _ W (by omega))
 have q1 : IntKind.u64.wrap (s.size : Int) = (s.size : Int) := IntWalk.u64_in _ ⟨by omega, by omega⟩
 have HL := Lib.hid (numB_ten (n := s.size) (by omega))
 obtain ⟨i0, hi0, hz0, hz1, hz2⟩ := info_parts infoB
 have HI := Lib.hid hi0
 have HZ := Lib.hid hz0
 have HZ1 := Lib.hid hz1
 have HZ2 := Lib.hid hz2
 clear hi0 hz0 hz1 hz2
 go_enter Tryz.func79, Tryz.ntmps79
 go_wp2_with (first
   | (go_at_call 80; (with_reducible refine (HN.out _).mono ?_); rintro e w1 ⟨v, rfl, hB, hO⟩
      have HB := Lib.hid hB
      have HO := Lib.hid hO
      clear hB hO)
   | (at_builtin; refine Lib.wpList_append_own_string _ rfl _ _ 55 9 rfl w.heap.size 5 i0 Tryz.underlying55 Tryz.underlying9 HI.out HZ.out HZ1.out HZ2.out v _ _ rfl HO.out s rfl ?c1 ?c2 ?c3 ?_)
   | fail)
 case c1 => have := HL.out; unfold maxLen; omega
 case c2 => have := HL.out; omega
 case c3 => exact HB.out.size
 intro v' w2 hown hgrow _
 have HO2 := Lib.hid (show OwnB w2 w.heap.size v' (textB s) by
   unfold OwnB textB
   rw [List.length_append, List.map_append, ← strCells_byV]
   exact hown)
 have HB2 := Lib.hid (HB.out.grown hgrow HB.out.size (fun b hb => (HO.out.lt b hb).1))
 clear hown hgrow
 go_wp2_with fail
 go_ret
 exact ⟨v', rfl, HB2.out, HO2.out⟩
end Go.Proofs.YtcgpflkaejbkhaaGreatDoor
