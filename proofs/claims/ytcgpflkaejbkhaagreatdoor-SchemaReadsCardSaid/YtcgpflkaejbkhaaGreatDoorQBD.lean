/- The walks of the document's writers: Num, Int, Bool, Text. -/
import Derived.Test.YtcgpflkaejbkhaaGreatDoorQAZ
import Derived.Deep.RegionLaw
import Derived.RegionTactic
namespace Go.Proofs.YtcgpflkaejbkhaaGreatDoor
open Go.RowKit

def strB (l : List UInt8) : Value := .string ⟨l.toArray⟩
theorem conv_one (W : World) (g : Nat) (z : Int) (b8 : UInt8) (hz : byV b8 = .int .u8 z) (h : W.cell? ⟨g, 0, none⟩ = some (.int .u8 z)) : (convert 55 9 (.slice (some ⟨g, 0, none⟩) 1 1)).run Tryz.prog W = .ok (.string ⟨#[b8]⟩) W :=
 run_convert_bytes_back W 55 9 5 ⟨g, 0, none⟩ 1 [b8] Tryz.underlying55 Tryz.underlying5 Tryz.underlying9 (fun j hj => by
   obtain rfl : j = 0 := by simpa using hj
   rw [Addr.add_lit]
   exact h.trans (by rw [← hz]; rfl))
theorem join_bytes (a b : List UInt8) : (⟨a.toArray⟩ : ByteArray) ++ ⟨b.toArray⟩ = ⟨(a ++ b).toArray⟩ := by
 have h : ((⟨a.toArray⟩ : ByteArray) ++ ⟨b.toArray⟩).data = (a ++ b).toArray := by
   rw [ByteArray.data_append]
   simp
 rw [← h]
set_option maxHeartbeats 2000000 in
theorem rwr_num (n : Nat) (w : World) (hn : n < 2 ^ 64) : Calls Tryz.prog 104 #[.int .u64 (n : Int)] w (RetV (strB (numB n)) w) := by
 induction n using Nat.strongRecOn generalizing w with
 | _ n ih =>
 have hn64 : (n : Int) ≤ 18446744073709551615 := by omega
 by_cases hlow : n < 128
 · obtain ⟨b8, hb8⟩ : ∃ b : UInt8, b = UInt8.ofNat n := ⟨_, rfl⟩
   have HX := Lib.hid (show numB n = [b8] by rw [hb8]; exact numB_low hlow)
   have hby : byV b8 = .int .u8 (n : Int) := by rw [hb8]; exact byV_ofNat (by omega)
   have hcv : ∀ W : World, (convert 55 9 (.slice (some ⟨W.heap.size, 0, none⟩) 1 1)).run Tryz.prog (W.alloc (.cells #[.int .u8 (n : Int)] 5)) = .ok (.string ⟨#[b8]⟩) (W.alloc (.cells #[.int .u8 (n : Int)] 5)) := fun W => conv_one _ _ _ b8 hby (cell_of_row _ _ 0 _ _ _ (heap_alloc_new W _))
   have q1 : ((n : Int) < 128) = True := eq_true (by omega)
   have hn8 : (n : Int) ≤ 127 := by omega
   clear hlow hn ih hb8 hby
   go_enter Tryz.func104, Tryz.ntmps104
   go_wp2_with fail
   go_ret
   exact ⟨by rw [HX.out]; rfl, below1 w _⟩
 · obtain ⟨r, hr⟩ : ∃ r : Nat, r = n % 128 := ⟨_, rfl⟩
   obtain ⟨d, hd⟩ : ∃ d : Nat, d = n / 128 := ⟨_, rfl⟩
   obtain ⟨b8, hb8⟩ : ∃ b : UInt8, b = UInt8.ofNat (r + 128) := ⟨_, rfl⟩
   have HX := Lib.hid (show numB n = [b8] ++ numB d by rw [hb8, hr, hd]; exact numB_high hlow)
   have hby : byV b8 = .int .u8 ((r : Int) + 128) := by rw [hb8, byV_ofNat (by omega)]; simp
   have hcv : ∀ W : World, (convert 55 9 (.slice (some ⟨W.heap.size, 0, none⟩) 1 1)).run Tryz.prog (W.alloc (.cells #[.int .u8 ((r : Int) + 128)] 5)) = .ok (.string ⟨#[b8]⟩) (W.alloc (.cells #[.int .u8 ((r : Int) + 128)] 5)) := fun W => conv_one _ _ _ b8 hby (cell_of_row _ _ 0 _ _ _ (heap_alloc_new W _))
   have HR := Lib.hid (show ∀ W, Calls Tryz.prog 104 #[.int .u64 (d : Int)] W (RetV (strB (numB d)) W) from fun W => ih d (by omega) W (by omega))
   obtain ⟨S, hS⟩ : ∃ S : ByteArray, S = ⟨(numB d).toArray⟩ := ⟨_, rfl⟩
   have HSV := Lib.hid (show strB (numB d) = .string S by rw [hS]; rfl)
   obtain ⟨U, hU⟩ : ∃ U : ByteArray, U = ⟨#[b8]⟩ ++ S := ⟨_, rfl⟩
   have HU := Lib.hid (show Value.string U = strB (numB n) by rw [HX.out, hU, hS]; exact congrArg Value.string (join_bytes [b8] (numB d)))
   have hadd : ∀ W, (Op.stringOp .add ⟨#[b8]⟩ S).run Tryz.prog W = .ok (.string U) W := fun W => by
     rw [hU]
     refine add_text W _ _ ?_
     have h1 : S.size = (numB d).length := by rw [hS]; rfl
     have h2 := numB_ten (n := d) (by omega)
     have h3 : (⟨#[b8]⟩ : ByteArray).size = 1 := rfl
     omega
   have q1 : ((n : Int) < 128) = False := eq_false (by omega)
   have q2 : (n : Int).tmod 128 = (r : Int) := by rw [Int.tmod_eq_emod_of_nonneg (by omega)]; omega
   have q3 : (n : Int).tdiv 128 = (d : Int) := by rw [Int.tdiv_eq_ediv_of_nonneg (by omega)]; omega
   have q2b : (n : Int) % 128 = (r : Int) := by omega
   have q3b : (n : Int) / 128 = (d : Int) := by omega
   have hw1 : IntKind.u8.wrap (r : Int) = (r : Int) := IntWalk.u8_in _ ⟨by omega, by omega⟩
   have hw2 : IntKind.u8.wrap ((r : Int) + 128) = (r : Int) + 128 := IntWalk.u8_in _ ⟨by omega, by omega⟩
   have hw3 : IntKind.u64.wrap (d : Int) = (d : Int) := IntWalk.u64_in _ ⟨by omega, by omega⟩
   have hcv2 : ∀ W : World, (convert 55 9 (.slice (some ⟨W.heap.size, 0, none⟩) 1 1)).run Tryz.prog (W.alloc (.cells #[.int .u8 ((r : Int) + 128)] 5)).drew = .ok (.string ⟨#[b8]⟩) (W.alloc (.cells #[.int .u8 ((r : Int) + 128)] 5)).drew := fun W => conv_one _ _ _ b8 hby (cell_of_row _ _ 0 _ _ _ (show (W.alloc (.cells #[.int .u8 ((r : Int) + 128)] 5)).drew.heap[W.heap.size]? = _ from heap_alloc_new W _))
   have HBY := Lib.hid hby
   clear hlow hn ih hb8 hby hS hU hr hd
   go_enter Tryz.func104, Tryz.ntmps104
   go_wp2_with fail
   go_region_law (first
     | (go_simp; go_at_call 104; (with_reducible refine (HR.out _).mono ?_); rintro e w5 ⟨rfl, hB5⟩
        have HB5 := Lib.hid hB5
        rw [HSV.out]
        (try have hc5 : (convert 55 9 (.slice (some ⟨w.heap.size, 0, none⟩) 1 1)).run Tryz.prog w5 = .ok (.string ⟨#[b8]⟩) w5 := conv_one w5 _ _ b8 HBY.out (cell_kept (cell_of_row _ _ 0 _ _ _ (heap_alloc_new w.drew _)) HB5.out))
        clear hB5)
     | fail)
   all_goals
     go_wp2_with fail
     go_ret
     refine ⟨congrArg Ending.returned HU.out, ?_⟩
     first
     | exact ((below1 w _).drew).trans (HB5.out.mono (by simp))
     | exact (((Below.refl _ _).drew).trans HB5.out).alloc HB5.out.size _
theorem rwr_int (z : Int) (w : World) (h0 : 0 ≤ z) (h1 : z ≤ 9223372036854775807) : Calls Tryz.prog 90 #[.int .i64 z] w (RetV (strB (intB z)) w) := by
 obtain ⟨k, hk⟩ : ∃ k : Nat, z = (k : Int) := ⟨z.toNat, by omega⟩
 obtain ⟨d, hd⟩ : ∃ d : Nat, d = 2 * k := ⟨_, rfl⟩
 have hi : intB z = numB d := by unfold intB; rw [hk, hd]; rfl
 subst hk
 have HN := Lib.hid (show ∀ W, Calls Tryz.prog 104 #[.int .u64 (d : Int)] W (RetV (strB (intB (k : Int))) W) from fun W => by rw [hi]; exact rwr_num _ W (by omega))
 have q1 : ((k : Int) < 0) = False := eq_false (by omega)
 have q2 : IntKind.u64.wrap (k : Int) = (k : Int) := IntWalk.u64_in _ ⟨by omega, by omega⟩
 have q3 : IntKind.u64.wrap ((k : Int) + (k : Int)) = (d : Int) := by rw [IntWalk.u64_in _ ⟨by omega, by omega⟩]; omega
 clear hi hd
 go_enter Tryz.func90, Tryz.ntmps90
 go_wp2_with (first
   | (go_at_call 104; (with_reducible refine (HN.out _).mono ?_); rintro e w1 ⟨rfl, hB⟩
      have HB := Lib.hid hB
      clear hB)
   | fail)
 go_ret
 exact ⟨rfl, HB.out⟩
theorem rwr_n (k : Nat) (w : World) (h1 : k ≤ 1000000) : Calls Tryz.prog 89 #[.int .i64 (k : Int)] w (RetV (strB (numB k)) w) := by
 have HN := Lib.hid (show ∀ W, Calls Tryz.prog 104 #[.int .u64 (k : Int)] W (RetV (strB (numB k)) W) from fun W => rwr_num _ W (by omega))
 have q2 : IntKind.u64.wrap (k : Int) = (k : Int) := IntWalk.u64_in _ ⟨by omega, by omega⟩
 go_enter Tryz.func89, Tryz.ntmps89
 go_wp2_with (first
   | (go_at_call 104; (with_reducible refine (HN.out _).mono ?_); rintro e w1 ⟨rfl, hB⟩
      have HB := Lib.hid hB
      clear hB)
   | fail)
 go_ret
 exact ⟨rfl, HB.out⟩
theorem rwr_bool (x : Bool) (w : World) : Calls Tryz.prog 91 #[.bool x] w (RetV (strB (boolB x)) w) := by
 cases x with
 | true =>
   go_enter Tryz.func91, Tryz.ntmps91
   go_wp2_with fail
   go_ret
   exact ⟨rfl, Below.refl _ _⟩
 | false =>
   go_enter Tryz.func91, Tryz.ntmps91
   go_wp2_with fail
   go_ret
   exact ⟨rfl, Below.refl _ _⟩
theorem rwr_text (s : ByteArray) (w : World) (hs : s.size ≤ 900) : Calls Tryz.prog 88 #[.string s] w (RetV (strB (textB s)) w) := by
 obtain ⟨S, hS⟩ : ∃ S : ByteArray, S = ⟨(numB s.size).toArray⟩ := ⟨_, rfl⟩
 have HN := Lib.hid (show ∀ W, Calls Tryz.prog 104 #[.int .u64 (s.size : Int)] W (RetV (.string S) W) from fun W => by rw [hS]; exact rwr_num _ W (by omega))
 have q1 : IntKind.u64.wrap (s.size : Int) = (s.size : Int) := IntWalk.u64_in _ ⟨by omega, by omega⟩
 obtain ⟨U, hU⟩ : ∃ U : ByteArray, U = S ++ s := ⟨_, rfl⟩
 have hadd : ∀ W, (Op.stringOp .add S s).run Tryz.prog W = .ok (.string U) W := fun W => by
   rw [hU]
   refine add_text W _ _ ?_
   have h1 : S.size = (numB s.size).length := by rw [hS]; rfl
   have h2 := numB_ten (n := s.size) (by omega)
   omega
 have HU := Lib.hid (show Value.string U = strB (textB s) by
   rw [hU, hS]
   exact congrArg Value.string (join_bytes (numB s.size) s.data.toList))
 clear hS hU
 go_enter Tryz.func88, Tryz.ntmps88
 go_wp2_with (first
   | (go_at_call 104; (with_reducible refine (HN.out _).mono ?_); rintro e w1 ⟨rfl, hB⟩
      have HB := Lib.hid hB
      clear hB)
   | fail)
 go_ret
 exact ⟨congrArg Ending.returned HU.out, HB.out⟩
end Go.Proofs.YtcgpflkaejbkhaaGreatDoor
