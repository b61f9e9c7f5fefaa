/- The walk of strconv's fmtEFG: the contract. -/
import Derived.Test.YtoafiombpokpaaaGreatDoorFmtG
namespace Go.Proofs.YtoafiombpokpaaaGreatDoor
open Go.RowKit

theorem res_t {fn : Func} {i : Nat} (h : fn.results = #[.tmp i]) {tm : Array Value} {W : World} {s : Value} (hp : tm.getD i undef = s) : (results fn tm).run Tryz.prog W = .ok s W := by
  have hp2 : tm[i]?.getD undef = s := by simpa using hp
  simp [results, h, go_sem, hp2]
def FmtO (w0 : World) (B : Nat) (L : List UInt8) (e : Ending) (w' : World) : Prop := ∃ v, e = .returned v ∧ OwnB w' B v L ∧ Below B w0 w'
set_option maxRecDepth 100000 in
set_option maxHeartbeats 8000000 in
theorem fmt_e (w0 : World) (B blk nd : Nat) (f : Nat → UInt8) (l : List UInt8) (dp : Int) (neg : Bool) (v : Value) (w : World) (hnd : nd ≤ 30) (hx : (expN dp nd).natAbs < 1000) (hd1 : -2000 ≤ dp) (hd2 : dp ≤ 2000) (hF : FE w0 B blk nd f v l w) (hl : l.length ≤ 100) (hc : dp - 1 < -4 ∨ 6 ≤ dp - 1) :
    Calls Tryz.prog 80 #[v, .bool neg, .slice (some ⟨blk, 0, none⟩) 32 32, .int .i64 dp, .int .i64 (nd : Int), .int .i64 (nd : Int), .int .u8 103, .bool true] w (FmtO w0 B (l ++ fmtL neg f dp nd)) := by
  have HF := Lib.hid hF
  have HL := Lib.hid hl
  have HX := Lib.hid hx
  have HD1 := Lib.hid hd1
  have HD2 := Lib.hid hd2
  have HE := Lib.hid (show fmtL neg f dp nd = (if neg then [45] else []) ++ expL f dp nd from by unfold fmtL; rw [if_pos hc])
  by_cases h1 : dp - 1 < -4
  · have g1 : (dp - 1 < -4) = True := eq_true h1
    clear hF hl hx hc h1
    go_enter Tryz.func80, Tryz.ntmps80
    refine wp_seq_k fun K0 hK0 => ?_
    have HK0 := Lib.hid hK0
    clear hK0
    go_wp2_with fail
    refine HK0.out _ _ ?_
    refine wp_seq_k fun K1 hK1 => ?_
    have HK1 := Lib.hid hK1
    clear hK1
    go_wp2_with fail
    refine HK1.out _ _ ?_
    refine wp_seq_k fun K2 hK2 => ?_
    have HK2 := Lib.hid hK2
    clear hK2
    refine wp_seq_k fun K3 hK3 => ?_
    have HK3 := Lib.hid hK3
    clear hK3
    go_wp2_with fail
    refine HK3.out _ _ (wp_block ?_)
    refine wp_seq_k fun K4 hK4 => ?_
    have HK4 := Lib.hid hK4
    clear hK4
    go_wp2_with fail
    refine HK4.out _ _ ?_
    refine wp_cond_true rfl ?_
    refine e0 (neg := neg) (w0 := w0) (B := B) (L := l ++ fmtL neg f dp nd) (Q := Exit.inBlock 0 (Exit.then K2 (bodyPost Tryz.prog Tryz.f80 (FmtO w0 B (l ++ fmtL neg f dp nd)))))    (fun a w v h1 h2 h3 h4 => (show bodyPost Tryz.prog Tryz.f80 (FmtO w0 B (l ++ fmtL neg f dp nd)) .ret a w from bodyPost_ret (res_t rfl h2) h1 ⟨v, rfl, h3, h4⟩)) _ _ _ ⟨?_, ?_, ?_, ?_, ?_, ?_, ?_, ?_, ?_⟩ hnd HX.out HD1.out HD2.out HF.out (by have := HL.out; omega) (by rw [HE.out])
    all_goals rfl
  · have g1 : (dp - 1 < -4) = False := eq_false h1
    have g2 : (6 ≤ dp - 1) = True := eq_true (by omega)
    clear hF hl hx hc h1
    go_enter Tryz.func80, Tryz.ntmps80
    refine wp_seq_k fun K0 hK0 => ?_
    have HK0 := Lib.hid hK0
    clear hK0
    go_wp2_with fail
    refine HK0.out _ _ ?_
    refine wp_seq_k fun K1 hK1 => ?_
    have HK1 := Lib.hid hK1
    clear hK1
    go_wp2_with fail
    refine HK1.out _ _ ?_
    refine wp_seq_k fun K2 hK2 => ?_
    have HK2 := Lib.hid hK2
    clear hK2
    refine wp_seq_k fun K3 hK3 => ?_
    have HK3 := Lib.hid hK3
    clear hK3
    go_wp2_with fail
    refine HK3.out _ _ (wp_block ?_)
    refine wp_seq_k fun K4 hK4 => ?_
    have HK4 := Lib.hid hK4
    clear hK4
    go_wp2_with fail
    refine HK4.out _ _ ?_
    refine wp_cond_true rfl ?_
    refine e0 (neg := neg) (w0 := w0) (B := B) (L := l ++ fmtL neg f dp nd) (Q := Exit.inBlock 0 (Exit.then K2 (bodyPost Tryz.prog Tryz.f80 (FmtO w0 B (l ++ fmtL neg f dp nd)))))    (fun a w v h1 h2 h3 h4 => (show bodyPost Tryz.prog Tryz.f80 (FmtO w0 B (l ++ fmtL neg f dp nd)) .ret a w from bodyPost_ret (res_t rfl h2) h1 ⟨v, rfl, h3, h4⟩)) _ _ _ ⟨?_, ?_, ?_, ?_, ?_, ?_, ?_, ?_, ?_⟩ hnd HX.out HD1.out HD2.out HF.out (by have := HL.out; omega) (by rw [HE.out])
    all_goals rfl
set_option maxRecDepth 100000 in
set_option maxHeartbeats 8000000 in
theorem fmt_f (w0 : World) (B blk nd : Nat) (f : Nat → UInt8) (l : List UInt8) (dp : Int) (neg : Bool) (v : Value) (w : World) (hnd : nd ≤ 30) (hF : FE w0 B blk nd f v l w) (hl : l.length ≤ 100) (hc : ¬ (dp - 1 < -4 ∨ 6 ≤ dp - 1)) :
    Calls Tryz.prog 80 #[v, .bool neg, .slice (some ⟨blk, 0, none⟩) 32 32, .int .i64 dp, .int .i64 (nd : Int), .int .i64 (nd : Int), .int .u8 103, .bool true] w (FmtO w0 B (l ++ fmtL neg f dp nd)) := by
  have HF := Lib.hid hF
  have HL := Lib.hid hl
  have HD1 := Lib.hid (show -2000 ≤ dp from by omega)
  have HD3 := Lib.hid (show dp ≤ 400 from by omega)
  have d1 : -2000 ≤ dp := by omega
  have d2 : dp ≤ 2000 := by omega
  have HE := Lib.hid (show fmtL neg f dp nd = (if neg then [45] else []) ++ fixL f dp nd from by unfold fmtL; rw [if_neg hc])
  have g1 : (dp - 1 < -4) = False := eq_false (by omega)
  have g2 : (6 ≤ dp - 1) = False := eq_false (by omega)
  by_cases h1 : dp < nd
  · have g3 : (dp < (nd : Int)) = True := eq_true h1
    have HP0 := Lib.hid (show (nd : Int) ≤ dp → (nd : Int) - dp = 0 from by omega)
    have HM : max ((nd : Int) - dp) 0 = (nd : Int) - dp := by omega
    clear hF hl hc h1
    go_enter Tryz.func80, Tryz.ntmps80
    refine wp_seq_k fun K0 hK0 => ?_
    have HK0 := Lib.hid hK0
    clear hK0
    go_wp2_with fail
    refine HK0.out _ _ ?_
    refine wp_seq_k fun K1 hK1 => ?_
    have HK1 := Lib.hid hK1
    clear hK1
    go_wp2_with fail
    refine HK1.out _ _ ?_
    refine wp_seq_k fun K2 hK2 => ?_
    have HK2 := Lib.hid hK2
    clear hK2
    refine wp_seq_k fun K3 hK3 => ?_
    have HK3 := Lib.hid hK3
    clear hK3
    go_wp2_with fail
    refine HK3.out _ _ (wp_block ?_)
    refine wp_seq_k fun K4 hK4 => ?_
    have HK4 := Lib.hid hK4
    clear hK4
    go_wp2_with fail
    refine HK4.out _ _ ?_
    refine wp_cond_false rfl ?_
    refine wp_seq_k fun K5 hK5 => ?_
    have HK5 := Lib.hid hK5
    clear hK5
    go_wp2_with fail
    refine HK5.out _ _ ?_
    refine wp_cond_true rfl ?_
    refine f0 (neg := neg) (w0 := w0) (B := B) (L := l ++ fmtL neg f dp nd) (Q := Exit.inBlock 0 (Exit.then K2 (bodyPost Tryz.prog Tryz.f80 (FmtO w0 B (l ++ fmtL neg f dp nd)))))    (fun a w v h1 h2 h3 h4 => (show bodyPost Tryz.prog Tryz.f80 (FmtO w0 B (l ++ fmtL neg f dp nd)) .ret a w from bodyPost_ret (res_t rfl h2) h1 ⟨v, rfl, h3, h4⟩)) _ ((nd : Int) - dp) _ _ ⟨?_, ?_, ?_, ?_, ?_, ?_, ?_, ?_, ?_⟩ hnd HD1.out HD3.out (fun _ => rfl) HP0.out HF.out (by have := HL.out; omega) (by rw [HE.out])
    all_goals first | rfl | skip
  · have g3 : (dp < (nd : Int)) = False := eq_false h1
    have HP1 := Lib.hid (show dp < nd → 0 = (nd : Int) - dp from by omega)
    have HM : max ((nd : Int) - dp) 0 = 0 := by omega
    clear hF hl hc h1
    go_enter Tryz.func80, Tryz.ntmps80
    refine wp_seq_k fun K0 hK0 => ?_
    have HK0 := Lib.hid hK0
    clear hK0
    go_wp2_with fail
    refine HK0.out _ _ ?_
    refine wp_seq_k fun K1 hK1 => ?_
    have HK1 := Lib.hid hK1
    clear hK1
    go_wp2_with fail
    refine HK1.out _ _ ?_
    refine wp_seq_k fun K2 hK2 => ?_
    have HK2 := Lib.hid hK2
    clear hK2
    refine wp_seq_k fun K3 hK3 => ?_
    have HK3 := Lib.hid hK3
    clear hK3
    go_wp2_with fail
    refine HK3.out _ _ (wp_block ?_)
    refine wp_seq_k fun K4 hK4 => ?_
    have HK4 := Lib.hid hK4
    clear hK4
    go_wp2_with fail
    refine HK4.out _ _ ?_
    refine wp_cond_false rfl ?_
    refine wp_seq_k fun K5 hK5 => ?_
    have HK5 := Lib.hid hK5
    clear hK5
    go_wp2_with fail
    refine HK5.out _ _ ?_
    refine wp_cond_true rfl ?_
    refine f0 (neg := neg) (w0 := w0) (B := B) (L := l ++ fmtL neg f dp nd) (Q := Exit.inBlock 0 (Exit.then K2 (bodyPost Tryz.prog Tryz.f80 (FmtO w0 B (l ++ fmtL neg f dp nd)))))    (fun a w v h1 h2 h3 h4 => (show bodyPost Tryz.prog Tryz.f80 (FmtO w0 B (l ++ fmtL neg f dp nd)) .ret a w from bodyPost_ret (res_t rfl h2) h1 ⟨v, rfl, h3, h4⟩)) _ 0 _ _ ⟨?_, ?_, ?_, ?_, ?_, ?_, ?_, ?_, ?_⟩ hnd HD1.out HD3.out HP1.out (fun _ => rfl) HF.out (by have := HL.out; omega) (by rw [HE.out])
    all_goals first | rfl | skip
theorem fmt_any (w0 : World) (B blk nd : Nat) (f : Nat → UInt8) (l : List UInt8) (dp : Int) (neg : Bool) (v : Value) (w : World) (hnd : nd ≤ 30) (hx : (expN dp nd).natAbs < 1000) (hd1 : -2000 ≤ dp) (hd2 : dp ≤ 2000) (hF : FE w0 B blk nd f v l w) (hl : l.length ≤ 100) :
    Calls Tryz.prog 80 #[v, .bool neg, .slice (some ⟨blk, 0, none⟩) 32 32, .int .i64 dp, .int .i64 (nd : Int), .int .i64 (nd : Int), .int .u8 103, .bool true] w (FmtO w0 B (l ++ fmtL neg f dp nd)) := by
  by_cases hc : dp - 1 < -4 ∨ 6 ≤ dp - 1
  · exact fmt_e w0 B blk nd f l dp neg v w hnd hx hd1 hd2 hF hl hc
  · exact fmt_f w0 B blk nd f l dp neg v w hnd hF hl hc
end Go.Proofs.YtoafiombpokpaaaGreatDoor
