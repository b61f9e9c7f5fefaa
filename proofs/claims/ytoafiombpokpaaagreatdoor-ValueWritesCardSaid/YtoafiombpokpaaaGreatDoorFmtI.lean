/- The walk of strconv's fmtEFG at zero. -/
import Derived.Test.YtoafiombpokpaaaGreatDoorFmtH
namespace Go.Proofs.YtoafiombpokpaaaGreatDoor
open Go.RowKit

set_option maxRecDepth 100000 in
set_option maxHeartbeats 8000000 in
theorem fmt_zero (w0 : World) (B blk : Nat) (f : Nat → UInt8) (l : List UInt8) (neg : Bool) (v : Value) (w : World) (hF : FE w0 B blk 0 f v l w) (hl : l.length ≤ 100) :
    Calls Tryz.prog 80 #[v, .bool neg, .slice none 0 0, .int .i64 0, .int .i64 0, .int .i64 (-1), .int .u8 103, .bool true] w (FmtO w0 B (l ++ if neg then [45, 48] else [48])) := by
  have HF := Lib.hid hF
  have HL := Lib.hid hl
  clear hF hl
  cases neg with
  | true =>
    refine Calls.mono (R := FmtO w0 B (l ++ [45, 48])) ?_ (fun e w h => h)
    go_enter Tryz.func80, Tryz.ntmps80
    refine wp_seq_k fun K0 hK0 => ?_
    have HK0 := Lib.hid hK0
    clear hK0
    go_wp2_with fail
    refine HK0.out _ _ ?_
    refine wp_seq_k fun K1 hK1 => ?_
    have HK1 := Lib.hid hK1
    clear hK1
    go_wp2_with fail
    refine HK1.out _ _ ?_
    refine wp_seq_k fun K2 hK2 => ?_
    have HK2 := Lib.hid hK2
    clear hK2
    refine wp_seq_k fun K3 hK3 => ?_
    have HK3 := Lib.hid hK3
    clear hK3
    go_wp2_with fail
    refine HK3.out _ _ (wp_block ?_)
    refine wp_seq_k fun K4 hK4 => ?_
    have HK4 := Lib.hid hK4
    clear hK4
    go_wp2_with fail
    refine HK4.out _ _ ?_
    refine wp_cond_false rfl ?_
    refine wp_seq_k fun K5 hK5 => ?_
    have HK5 := Lib.hid hK5
    clear hK5
    go_wp2_with fail
    refine HK5.out _ _ ?_
    refine wp_cond_true rfl ?_
    refine wp_seq_k fun K6 hK6 => ?_
    have HK6 := Lib.hid hK6
    clear hK6
    go_wp2_with (first
      | (at_builtin; refine fe_app rfl _ _ rfl (HF.out.alloc _) rfl ⟨_, 0, none⟩ 1 _ [45] rfl rfl (news_of2 (l2 := [45]) rfl) ?c1 ?_)
      | fail)
    case c1 => have := HL.out; simp; omega
    intro vF1 wF1 hF1
    have F1 := Lib.hid hF1
    clear hF1
    go_wp2_with fail
    refine HK6.out _ _ ?_
    refine wp_seq_k fun K7 hK7 => ?_
    have HK7 := Lib.hid hK7
    clear hK7
    go_wp2_with (first
      | (at_builtin; refine fe_app rfl _ _ rfl (F1.out.alloc _) rfl ⟨_, 0, none⟩ 1 _ [48] rfl rfl (news_of2 (l2 := [48]) rfl) ?c1 ?_)
      | fail)
    case c1 => have := HL.out; simp; omega
    intro vF2 wF2 hF2
    have F2 := Lib.hid hF2
    clear hF2
    go_wp2_with fail
    refine HK7.out _ _ ?_
    refine wp_seq_k fun K8 hK8 => ?_
    have HK8 := Lib.hid hK8
    clear hK8
    go_wp2_with fail
    refine HK8.out _ _ ?_
    go_wp2_with fail
    exact (show bodyPost Tryz.prog Tryz.f80 (FmtO w0 B (l ++ [45, 48])) .ret _ _ from bodyPost_ret (res_t rfl rfl) rfl ⟨_, rfl, by simpa using F2.out.own, F2.out.below⟩)
  | false =>
    refine Calls.mono (R := FmtO w0 B (l ++ [48])) ?_ (fun e w h => h)
    go_enter Tryz.func80, Tryz.ntmps80
    refine wp_seq_k fun K0 hK0 => ?_
    have HK0 := Lib.hid hK0
    clear hK0
    go_wp2_with fail
    refine HK0.out _ _ ?_
    refine wp_seq_k fun K1 hK1 => ?_
    have HK1 := Lib.hid hK1
    clear hK1
    go_wp2_with fail
    refine HK1.out _ _ ?_
    refine wp_seq_k fun K2 hK2 => ?_
    have HK2 := Lib.hid hK2
    clear hK2
    refine wp_seq_k fun K3 hK3 => ?_
    have HK3 := Lib.hid hK3
    clear hK3
    go_wp2_with fail
    refine HK3.out _ _ (wp_block ?_)
    refine wp_seq_k fun K4 hK4 => ?_
    have HK4 := Lib.hid hK4
    clear hK4
    go_wp2_with fail
    refine HK4.out _ _ ?_
    refine wp_cond_false rfl ?_
    refine wp_seq_k fun K5 hK5 => ?_
    have HK5 := Lib.hid hK5
    clear hK5
    go_wp2_with fail
    refine HK5.out _ _ ?_
    refine wp_cond_true rfl ?_
    refine wp_seq_k fun K6 hK6 => ?_
    have HK6 := Lib.hid hK6
    clear hK6
    go_wp2_with fail
    refine HK6.out _ _ ?_
    refine wp_seq_k fun K7 hK7 => ?_
    have HK7 := Lib.hid hK7
    clear hK7
    go_wp2_with (first
      | (at_builtin; refine fe_app rfl _ _ rfl (HF.out.alloc _) rfl ⟨_, 0, none⟩ 1 _ [48] rfl rfl (news_of2 (l2 := [48]) rfl) ?c1 ?_)
      | fail)
    case c1 => have := HL.out; simp; omega
    intro vF2 wF2 hF2
    have F2 := Lib.hid hF2
    clear hF2
    go_wp2_with fail
    refine HK7.out _ _ ?_
    refine wp_seq_k fun K8 hK8 => ?_
    have HK8 := Lib.hid hK8
    clear hK8
    go_wp2_with fail
    refine HK8.out _ _ ?_
    go_wp2_with fail
    exact (show bodyPost Tryz.prog Tryz.f80 (FmtO w0 B (l ++ [48])) .ret _ _ from bodyPost_ret (res_t rfl rfl) rfl ⟨_, rfl, by simpa using F2.out.own, F2.out.below⟩)
end Go.Proofs.YtoafiombpokpaaaGreatDoor
