/- The walk of strconv's fmtEFG with an exponent. -/
import Derived.Test.YtoafiombpokpaaaGreatDoorFmtB
namespace Go.Proofs.YtoafiombpokpaaaGreatDoor
open Go.RowKit

set_option maxRecDepth 100000 in
set_option maxHeartbeats 8000000 in
theorem e3 {w0 : World} {B blk nd : Nat} {f : Nat → UInt8} {l L : List UInt8} {dp : Int} {neg : Bool} {Q : Exit → Act → World → Prop} (HQ : ∀ a w v, a.defers = [] → a.tmps.getD 16 undef = v → OwnB w B v L → Below B w0 w → Q .ret a w) (v : Value) (prec : Int) (a : Act) (w : World) (hS : S80 neg blk nd dp prec v 101 a) (hx : (expN dp nd).natAbs < 1000) (hd1 : -2000 ≤ dp) (hd2 : dp ≤ 2000) (hF : FE w0 B blk nd f v l w) (hl : l.length ≤ 900) (hL : L = l ++ 101 :: (if expN dp nd < 0 then 45 else 43) :: expD (expN dp nd).natAbs) : (eC 5).wp Tryz.prog Q a w := by
  have HF := Lib.hid hF
  have HL := Lib.hid hl
  have HQ := Lib.hid HQ
  have HLL := Lib.hid hL
  clear hF hl hL
  rcases Nat.eq_zero_or_pos nd with rfl | hpos
  · have hE : expN dp 0 = 0 := rfl
    have HLL := Lib.hid (show L = (l ++ [101, 43]) ++ expD (expN dp 0).natAbs from by rw [HLL.out, hE, if_neg (by decide)]; simp)
    clear hE
    obtain ⟨u, hu, hug⟩ := open272 hS.size
    have p0 := hS.s0; have p1 := hS.s1; have p2 := hS.s2; have p3 := hS.s3; have p4 := hS.s4; have p5 := hS.s5; have p6 := hS.s6
    have hdf := hS.df
    rw [hug _ (by omega)] at p0 p1 p2 p3 p4 p5 p6
    obtain ⟨tm, df⟩ := a
    dsimp only at hu hdf
    subst hu hdf
    clear hS hug
    rw [p0, p1, p2, p3, p4, p5, p6]
    clear p0 p1 p2 p3 p4 p5 p6
    conv => arg 2; whnf
    refine wp_seq_k fun K0 hK0 => ?_
    have HK0 := Lib.hid hK0
    clear hK0
    go_wp2_with (first
      | (at_builtin; refine fe_app rfl _ _ rfl (HF.out.alloc _) rfl ⟨_, 0, none⟩ 1 _ [101] rfl rfl (news_of2 (l2 := [101]) rfl) ?c1 ?_)
      | fail)
    case c1 => have := HL.out; simp; omega
    intro vF1 wF1 hF1
    have F1 := Lib.hid hF1
    clear hF1
    go_wp2_with fail
    refine HK0.out _ _ ?_
    refine wp_seq_k fun K1 hK1 => ?_
    have HK1 := Lib.hid hK1
    clear hK1
    go_wp2_with fail
    refine HK1.out _ _ ?_
    refine wp_seq_k fun K2 hK2 => ?_
    have HK2 := Lib.hid hK2
    clear hK2
    go_wp2_with fail
    refine HK2.out _ _ ?_
    refine wp_seq_k fun K3 hK3 => ?_
    have HK3 := Lib.hid hK3
    clear hK3
    go_wp2_with fail
    refine HK3.out _ _ ?_
    refine wp_seq_k fun K4 hK4 => ?_
    have HK4 := Lib.hid (show ∀ a w', (eC 10).wp Tryz.prog Q a w' → K4 a w' from hK4)
    clear hK4
    go_wp2_with (first
      | (at_builtin; refine fe_app rfl _ _ rfl (F1.out.alloc _) rfl ⟨_, 0, none⟩ 1 _ [43] rfl rfl (news_of2 (l2 := [43]) rfl) ?c1 ?_)
      | fail)
    case c1 => have := HL.out; simp; omega
    intro vF2 wF2 hF2
    have F2 := Lib.hid hF2
    clear hF2
    go_wp2_with fail
    refine HK4.out _ _ (e_ret (neg := neg) HQ.out _ prec _ _ ⟨?_, ?_, ?_, ?_, ?_, ?_, ?_, ?_, ?_⟩ ?_ hx F2.out (by have := HL.out; simp; omega) ?_)
    all_goals first | rfl | skip
    exact HLL.out
  · have g0 : ((nd : Int) == 0) = false := by rw [beq_eq_false_iff_ne]; omega
    have g1 : (nd = 0) = False := eq_false (by omega)
    by_cases hn : dp - 1 < 0
    · have hE : expN dp nd = dp - 1 := by unfold expN; rw [if_neg (by omega)]
      have HLL := Lib.hid (show L = (l ++ [101, 45]) ++ expD (expN dp nd).natAbs from by rw [HLL.out, hE, if_pos hn]; simp)
      have HNA := Lib.hid (show -(dp - 1) = (((expN dp nd).natAbs : Nat) : Int) from by rw [hE]; omega)
      clear hE
      have g2 : (dp - 1 < 0) = True := eq_true hn
      obtain ⟨u, hu, hug⟩ := open272 hS.size
      have p0 := hS.s0; have p1 := hS.s1; have p2 := hS.s2; have p3 := hS.s3; have p4 := hS.s4; have p5 := hS.s5; have p6 := hS.s6
      have hdf := hS.df
      rw [hug _ (by omega)] at p0 p1 p2 p3 p4 p5 p6
      obtain ⟨tm, df⟩ := a
      dsimp only at hu hdf
      subst hu hdf
      clear hS hug
      rw [p0, p1, p2, p3, p4, p5, p6]
      clear p0 p1 p2 p3 p4 p5 p6
      conv => arg 2; whnf
      refine wp_seq_k fun K0 hK0 => ?_
      have HK0 := Lib.hid hK0
      clear hK0
      go_wp2_with (first
        | (at_builtin; refine fe_app rfl _ _ rfl (HF.out.alloc _) rfl ⟨_, 0, none⟩ 1 _ [101] rfl rfl (news_of2 (l2 := [101]) rfl) ?c1 ?_)
        | fail)
      case c1 => have := HL.out; simp; omega
      intro vF1 wF1 hF1
      have F1 := Lib.hid hF1
      clear hF1
      go_wp2_with fail
      refine HK0.out _ _ ?_
      refine wp_seq_k fun K1 hK1 => ?_
      have HK1 := Lib.hid hK1
      clear hK1
      go_wp2_with fail
      refine HK1.out _ _ ?_
      refine wp_seq_k fun K2 hK2 => ?_
      have HK2 := Lib.hid hK2
      clear hK2
      go_wp2_with fail
      refine HK2.out _ _ ?_
      refine wp_seq_k fun K3 hK3 => ?_
      have HK3 := Lib.hid hK3
      clear hK3
      go_wp2_with fail
      refine HK3.out _ _ ?_
      refine wp_seq_k fun K4 hK4 => ?_
      have HK4 := Lib.hid (show ∀ a w', (eC 10).wp Tryz.prog Q a w' → K4 a w' from hK4)
      clear hK4
      go_wp2_with (first
        | (at_builtin; refine fe_app rfl _ _ rfl (F1.out.alloc _) rfl ⟨_, 0, none⟩ 1 _ [45] rfl rfl (news_of2 (l2 := [45]) rfl) ?c1 ?_)
        | fail)
      case c1 => have := HL.out; simp; omega
      intro vF2 wF2 hF2
      have F2 := Lib.hid hF2
      clear hF2
      go_wp2_with fail
      refine HK4.out _ _ (e_ret (neg := neg) HQ.out _ prec _ _ ⟨?_, ?_, ?_, ?_, ?_, ?_, ?_, ?_, ?_⟩ ?_ hx F2.out (by have := HL.out; simp; omega) ?_)
      all_goals first | rfl | skip
      · show Value.int .i64 (-(dp - 1)) = _
        rw [HNA.out]
      · exact HLL.out
    · have hE : expN dp nd = dp - 1 := by unfold expN; rw [if_neg (by omega)]
      have HLL := Lib.hid (show L = (l ++ [101, 43]) ++ expD (expN dp nd).natAbs from by rw [HLL.out, hE, if_neg hn]; simp)
      have HNA := Lib.hid (show dp - 1 = (((expN dp nd).natAbs : Nat) : Int) from by rw [hE]; omega)
      clear hE
      have g2 : (dp - 1 < 0) = False := eq_false hn
      obtain ⟨u, hu, hug⟩ := open272 hS.size
      have p0 := hS.s0; have p1 := hS.s1; have p2 := hS.s2; have p3 := hS.s3; have p4 := hS.s4; have p5 := hS.s5; have p6 := hS.s6
      have hdf := hS.df
      rw [hug _ (by omega)] at p0 p1 p2 p3 p4 p5 p6
      obtain ⟨tm, df⟩ := a
      dsimp only at hu hdf
      subst hu hdf
      clear hS hug
      rw [p0, p1, p2, p3, p4, p5, p6]
      clear p0 p1 p2 p3 p4 p5 p6
      conv => arg 2; whnf
      refine wp_seq_k fun K0 hK0 => ?_
      have HK0 := Lib.hid hK0
      clear hK0
      go_wp2_with (first
        | (at_builtin; refine fe_app rfl _ _ rfl (HF.out.alloc _) rfl ⟨_, 0, none⟩ 1 _ [101] rfl rfl (news_of2 (l2 := [101]) rfl) ?c1 ?_)
        | fail)
      case c1 => have := HL.out; simp; omega
      intro vF1 wF1 hF1
      have F1 := Lib.hid hF1
      clear hF1
      go_wp2_with fail
      refine HK0.out _ _ ?_
      refine wp_seq_k fun K1 hK1 => ?_
      have HK1 := Lib.hid hK1
      clear hK1
      go_wp2_with fail
      refine HK1.out _ _ ?_
      refine wp_seq_k fun K2 hK2 => ?_
      have HK2 := Lib.hid hK2
      clear hK2
      go_wp2_with fail
      refine HK2.out _ _ ?_
      refine wp_seq_k fun K3 hK3 => ?_
      have HK3 := Lib.hid hK3
      clear hK3
      go_wp2_with fail
      refine HK3.out _ _ ?_
      refine wp_seq_k fun K4 hK4 => ?_
      have HK4 := Lib.hid (show ∀ a w', (eC 10).wp Tryz.prog Q a w' → K4 a w' from hK4)
      clear hK4
      go_wp2_with (first
        | (at_builtin; refine fe_app rfl _ _ rfl (F1.out.alloc _) rfl ⟨_, 0, none⟩ 1 _ [43] rfl rfl (news_of2 (l2 := [43]) rfl) ?c1 ?_)
        | fail)
      case c1 => have := HL.out; simp; omega
      intro vF2 wF2 hF2
      have F2 := Lib.hid hF2
      clear hF2
      go_wp2_with fail
      refine HK4.out _ _ (e_ret (neg := neg) HQ.out _ prec _ _ ⟨?_, ?_, ?_, ?_, ?_, ?_, ?_, ?_, ?_⟩ ?_ hx F2.out (by have := HL.out; simp; omega) ?_)
      all_goals first | rfl | skip
      · show Value.int .i64 (dp - 1) = _
        rw [HNA.out]
      · exact HLL.out
end Go.Proofs.YtoafiombpokpaaaGreatDoor
