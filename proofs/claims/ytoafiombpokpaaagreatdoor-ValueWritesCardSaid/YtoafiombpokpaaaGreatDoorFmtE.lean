/- The walk of strconv's fmtEFG with an exponent: the whole. -/
import Derived.Test.YtoafiombpokpaaaGreatDoorFmtD
namespace Go.Proofs.YtoafiombpokpaaaGreatDoor
open Go.RowKit

set_option maxRecDepth 100000 in
set_option maxHeartbeats 8000000 in
theorem e0 {w0 : World} {B blk nd : Nat} {f : Nat → UInt8} {l L : List UInt8} {dp : Int} {neg : Bool} {Q : Exit → Act → World → Prop} (HQ : ∀ a w v, a.defers = [] → a.tmps.getD 16 undef = v → OwnB w B v L → Below B w0 w → Q .ret a w) (v : Value) (a : Act) (w : World) (hS : S80 neg blk nd dp ((nd : Int) - 1) v 101 a) (hnd : nd ≤ 30) (hx : (expN dp nd).natAbs < 1000) (hd1 : -2000 ≤ dp) (hd2 : dp ≤ 2000) (hF : FE w0 B blk nd f v l w) (hl : l.length ≤ 700)
    (hL : L = l ++ ((if neg then [45] else []) ++ expL f dp nd)) : (eC 0).wp Tryz.prog Q a w := by
  have HF := Lib.hid hF
  have HL := Lib.hid hl
  have HQ := Lib.hid HQ
  have HLL := Lib.hid hL
  clear hF hl hL
  rcases Nat.eq_zero_or_pos nd with rfl | hpos
  · cases neg with
    | true =>
      have HL2 := Lib.hid (show L = (l ++ [45, 48] ++ (if 1 < 0 then 46 :: (List.range (0 - 1)).map (fun i => f (1 + i)) else [])) ++ 101 :: (if expN dp 0 < 0 then 45 else 43) :: expD (expN dp 0).natAbs from by rw [HLL.out]; unfold expL; rw [if_pos rfl]; simp [])
      obtain ⟨u, hu, hug⟩ := open272 hS.size
      have p0 := hS.s0; have p1 := hS.s1; have p2 := hS.s2; have p3 := hS.s3; have p4 := hS.s4; have p5 := hS.s5; have p6 := hS.s6
      have hdf := hS.df
      rw [hug _ (by omega)] at p0 p1 p2 p3 p4 p5 p6
      obtain ⟨tm, df⟩ := a
      dsimp only at hu hdf
      subst hu hdf
      clear hS hug
      rw [p0, p1, p2, p3, p4, p5, p6]
      clear p0 p1 p2 p3 p4 p5 p6
      conv => arg 2; whnf
      refine wp_seq_k fun K0 hK0 => ?_
      have HK0 := Lib.hid hK0
      clear hK0
      go_wp2_with (first
        | (at_builtin; refine fe_app rfl _ _ rfl (HF.out.alloc _) rfl ⟨_, 0, none⟩ 1 _ [45] rfl rfl (news_of2 (l2 := [45]) rfl) ?c1 ?_)
        | fail)
      case c1 => have := HL.out; simp; omega
      intro vF1 wF1 hF1
      have F1 := Lib.hid hF1
      clear hF1
      go_wp2_with fail
      refine HK0.out _ _ ?_
      refine wp_seq_k fun K1 hK1 => ?_
      have HK1 := Lib.hid hK1
      clear hK1
      go_wp2_with fail
      refine HK1.out _ _ ?_
      refine wp_seq_k fun K2 hK2 => ?_
      have HK2 := Lib.hid hK2
      clear hK2
      go_wp2_with fail
      refine HK2.out _ _ ?_
      refine wp_seq_k fun K3 hK3 => ?_
      have HK3 := Lib.hid (show ∀ a w', (eC 4).wp Tryz.prog Q a w' → K3 a w' from hK3)
      clear hK3
      go_wp2_with (first
        | (at_builtin; refine fe_app rfl _ _ rfl (F1.out.alloc _) rfl ⟨_, 0, none⟩ 1 _ [48] rfl rfl (news_of2 (l2 := [48]) rfl) ?c1 ?_)
        | fail)
      case c1 => have := HL.out; simp; omega
      intro vF2 wF2 hF2
      have F2 := Lib.hid hF2
      clear hF2
      go_wp2_with fail
      refine HK3.out _ _ (e2 (neg := true) HQ.out _ _ _ ⟨?_, ?_, ?_, ?_, ?_, ?_, ?_, ?_, ?_⟩ hnd hx hd1 hd2 F2.out (by have := HL.out; simp; omega) ?_)
      all_goals first | rfl | skip
      exact HL2.out
    | false =>
      have HL2 := Lib.hid (show L = (l ++ [48] ++ (if 1 < 0 then 46 :: (List.range (0 - 1)).map (fun i => f (1 + i)) else [])) ++ 101 :: (if expN dp 0 < 0 then 45 else 43) :: expD (expN dp 0).natAbs from by rw [HLL.out]; unfold expL; rw [if_pos rfl]; simp [])
      obtain ⟨u, hu, hug⟩ := open272 hS.size
      have p0 := hS.s0; have p1 := hS.s1; have p2 := hS.s2; have p3 := hS.s3; have p4 := hS.s4; have p5 := hS.s5; have p6 := hS.s6
      have hdf := hS.df
      rw [hug _ (by omega)] at p0 p1 p2 p3 p4 p5 p6
      obtain ⟨tm, df⟩ := a
      dsimp only at hu hdf
      subst hu hdf
      clear hS hug
      rw [p0, p1, p2, p3, p4, p5, p6]
      clear p0 p1 p2 p3 p4 p5 p6
      conv => arg 2; whnf
      refine wp_seq_k fun K0 hK0 => ?_
      have HK0 := Lib.hid hK0
      clear hK0
      go_wp2_with fail
      refine HK0.out _ _ ?_
      refine wp_seq_k fun K1 hK1 => ?_
      have HK1 := Lib.hid hK1
      clear hK1
      go_wp2_with fail
      refine HK1.out _ _ ?_
      refine wp_seq_k fun K2 hK2 => ?_
      have HK2 := Lib.hid hK2
      clear hK2
      go_wp2_with fail
      refine HK2.out _ _ ?_
      refine wp_seq_k fun K3 hK3 => ?_
      have HK3 := Lib.hid (show ∀ a w', (eC 4).wp Tryz.prog Q a w' → K3 a w' from hK3)
      clear hK3
      go_wp2_with (first
        | (at_builtin; refine fe_app rfl _ _ rfl (HF.out.alloc _) rfl ⟨_, 0, none⟩ 1 _ [48] rfl rfl (news_of2 (l2 := [48]) rfl) ?c1 ?_)
        | fail)
      case c1 => have := HL.out; simp; omega
      intro vF2 wF2 hF2
      have F2 := Lib.hid hF2
      clear hF2
      go_wp2_with fail
      refine HK3.out _ _ (e2 (neg := false) HQ.out _ _ _ ⟨?_, ?_, ?_, ?_, ?_, ?_, ?_, ?_, ?_⟩ hnd hx hd1 hd2 F2.out (by have := HL.out; simp; omega) ?_)
      all_goals first | rfl | skip
      exact HL2.out
  · have h0 : ¬ nd = 0 := by omega
    obtain ⟨c, hc⟩ : ∃ c, c = f 0 := ⟨_, rfl⟩
    have g0 : ((nd : Int) == 0) = false := by rw [beq_eq_false_iff_ne]; omega
    have g3 : ((nd : Int) != 0) = true := by unfold bne; rw [g0]; rfl
    have g4 : (nd = 0) = False := eq_false h0
    have HZ0 := Lib.hid (show ∀ v l W, FE w0 B blk nd f v l W → W.cell? ⟨blk, 0, none⟩ = some (Value.int .u8 (c.toNat : Int)) from fun v l W h => by rw [hc]; exact h.dig 0 (by omega))
    have HCC := Lib.hid hc
    clear hc
    cases neg with
    | true =>
      have HL2 := Lib.hid (show L = (l ++ [45, c] ++ (if 1 < nd then 46 :: (List.range (nd - 1)).map (fun i => f (1 + i)) else [])) ++ 101 :: (if expN dp nd < 0 then 45 else 43) :: expD (expN dp nd).natAbs from by rw [HLL.out]; unfold expL; rw [if_neg h0, ← HCC.out]; simp [Nat.add_comm])
      obtain ⟨u, hu, hug⟩ := open272 hS.size
      have p0 := hS.s0; have p1 := hS.s1; have p2 := hS.s2; have p3 := hS.s3; have p4 := hS.s4; have p5 := hS.s5; have p6 := hS.s6
      have hdf := hS.df
      rw [hug _ (by omega)] at p0 p1 p2 p3 p4 p5 p6
      obtain ⟨tm, df⟩ := a
      dsimp only at hu hdf
      subst hu hdf
      clear hS hug
      rw [p0, p1, p2, p3, p4, p5, p6]
      clear p0 p1 p2 p3 p4 p5 p6
      conv => arg 2; whnf
      refine wp_seq_k fun K0 hK0 => ?_
      have HK0 := Lib.hid hK0
      clear hK0
      go_wp2_with (first
        | (at_builtin; refine fe_app rfl _ _ rfl (HF.out.alloc _) rfl ⟨_, 0, none⟩ 1 _ [45] rfl rfl (news_of2 (l2 := [45]) rfl) ?c1 ?_)
        | fail)
      case c1 => have := HL.out; simp; omega
      intro vF1 wF1 hF1
      have F1 := Lib.hid hF1
      clear hF1
      go_wp2_with fail
      refine HK0.out _ _ ?_
      refine wp_seq_k fun K1 hK1 => ?_
      have HK1 := Lib.hid hK1
      clear hK1
      go_wp2_with fail
      refine HK1.out _ _ ?_
      have z0 : _ = some (Value.int .u8 (c.toNat : Int)) := HZ0.out _ _ _ F1.out
      refine wp_seq_k fun K2 hK2 => ?_
      have HK2 := Lib.hid hK2
      clear hK2
      go_wp2_with fail
      refine HK2.out _ _ ?_
      refine wp_seq_k fun K3 hK3 => ?_
      have HK3 := Lib.hid (show ∀ a w', (eC 4).wp Tryz.prog Q a w' → K3 a w' from hK3)
      clear hK3
      go_wp2_with (first
        | (at_builtin; refine fe_app rfl _ _ rfl (F1.out.alloc _) rfl ⟨_, 0, none⟩ 1 _ [c] rfl rfl (news_of2 (l2 := [c]) rfl) ?c1 ?_)
        | fail)
      case c1 => have := HL.out; simp; omega
      intro vF2 wF2 hF2
      have F2 := Lib.hid hF2
      clear hF2
      go_wp2_with fail
      refine HK3.out _ _ (e2 (neg := true) HQ.out _ _ _ ⟨?_, ?_, ?_, ?_, ?_, ?_, ?_, ?_, ?_⟩ hnd hx hd1 hd2 F2.out (by have := HL.out; simp; omega) ?_)
      all_goals first | rfl | skip
      exact HL2.out
    | false =>
      have HL2 := Lib.hid (show L = (l ++ [c] ++ (if 1 < nd then 46 :: (List.range (nd - 1)).map (fun i => f (1 + i)) else [])) ++ 101 :: (if expN dp nd < 0 then 45 else 43) :: expD (expN dp nd).natAbs from by rw [HLL.out]; unfold expL; rw [if_neg h0, ← HCC.out]; simp [Nat.add_comm])
      obtain ⟨u, hu, hug⟩ := open272 hS.size
      have p0 := hS.s0; have p1 := hS.s1; have p2 := hS.s2; have p3 := hS.s3; have p4 := hS.s4; have p5 := hS.s5; have p6 := hS.s6
      have hdf := hS.df
      rw [hug _ (by omega)] at p0 p1 p2 p3 p4 p5 p6
      obtain ⟨tm, df⟩ := a
      dsimp only at hu hdf
      subst hu hdf
      clear hS hug
      rw [p0, p1, p2, p3, p4, p5, p6]
      clear p0 p1 p2 p3 p4 p5 p6
      conv => arg 2; whnf
      refine wp_seq_k fun K0 hK0 => ?_
      have HK0 := Lib.hid hK0
      clear hK0
      go_wp2_with fail
      refine HK0.out _ _ ?_
      refine wp_seq_k fun K1 hK1 => ?_
      have HK1 := Lib.hid hK1
      clear hK1
      go_wp2_with fail
      refine HK1.out _ _ ?_
      have z0 : _ = some (Value.int .u8 (c.toNat : Int)) := HZ0.out _ _ _ HF.out
      refine wp_seq_k fun K2 hK2 => ?_
      have HK2 := Lib.hid hK2
      clear hK2
      go_wp2_with fail
      refine HK2.out _ _ ?_
      refine wp_seq_k fun K3 hK3 => ?_
      have HK3 := Lib.hid (show ∀ a w', (eC 4).wp Tryz.prog Q a w' → K3 a w' from hK3)
      clear hK3
      go_wp2_with (first
        | (at_builtin; refine fe_app rfl _ _ rfl (HF.out.alloc _) rfl ⟨_, 0, none⟩ 1 _ [c] rfl rfl (news_of2 (l2 := [c]) rfl) ?c1 ?_)
        | fail)
      case c1 => have := HL.out; simp; omega
      intro vF2 wF2 hF2
      have F2 := Lib.hid hF2
      clear hF2
      go_wp2_with fail
      refine HK3.out _ _ (e2 (neg := false) HQ.out _ _ _ ⟨?_, ?_, ?_, ?_, ?_, ?_, ?_, ?_, ?_⟩ hnd hx hd1 hd2 F2.out (by have := HL.out; simp; omega) ?_)
      all_goals first | rfl | skip
      exact HL2.out
end Go.Proofs.YtoafiombpokpaaaGreatDoor
