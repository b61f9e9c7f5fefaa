/- The walk of strconv's fmtEFG without an exponent: the whole. -/
import Derived.Test.YtoafiombpokpaaaGreatDoorFmtF
namespace Go.Proofs.YtoafiombpokpaaaGreatDoor
open Go.RowKit

theorem f2 {w0 : World} {B blk nd : Nat} {f : Nat → UInt8} {l L : List UInt8} {dp : Int} {neg : Bool} {Q : Exit → Act → World → Prop} (HQ : ∀ a w v, a.defers = [] → a.tmps.getD 16 undef = v → OwnB w B v L → Below B w0 w → Q .ret a w) (v : Value) (pr : Int) (a : Act) (w : World) (hS : S80 neg blk nd dp pr v 102 a) (hnd : nd ≤ 30) (hd1 : -2000 ≤ dp) (hd2 : dp ≤ 2000) (hp1 : dp < nd → pr = (nd : Int) - dp) (hp0 : (nd : Int) ≤ dp → pr = 0) (hF : FE w0 B blk nd f v l w) (hl : l.length ≤ 700)
    (hL : L = l ++ (if dp < nd then 46 :: (List.replicate (-dp).toNat 48 ++ (List.range (nd - dp.toNat)).map fun i => f (dp.toNat + i)) else [])) : (fC 2).wp Tryz.prog Q a w := by
  by_cases h : dp < nd
  · rw [if_pos h] at hL
    exact f2b HQ v pr (-dp).toNat dp.toNat (nd - dp.toNat) a w hS hnd hd1 hd2 hF hl (hp1 h) (by omega) (by omega) (by omega) h hL
  · rw [if_neg h, List.append_nil] at hL
    obtain rfl : pr = 0 := hp0 (by omega)
    subst hL
    exact f2a HQ v a w hS hF
/-- while the whole part is written -/
structure Y80 (neg : Bool) (blk nd : Nat) (dp pr : Int) (m : Nat) (a : Act) : Prop where
  size : a.tmps.size = 272
  df : a.defers = []
  s1 : a.tmps.getD 1 undef = .bool neg
  s2 : a.tmps.getD 2 undef = .slice (some ⟨blk, 0, none⟩) 32 32
  s3 : a.tmps.getD 3 undef = .int .i64 dp
  s4 : a.tmps.getD 4 undef = .int .i64 (nd : Int)
  s5 : a.tmps.getD 5 undef = .int .i64 pr
  s6 : a.tmps.getD 6 undef = .int .u8 102
  s23 : a.tmps.getD 23 undef = .int .i64 (m : Int)
set_option maxRecDepth 100000 in
set_option maxHeartbeats 8000000 in
theorem f1b {w0 : World} {B blk nd : Nat} {f : Nat → UInt8} {l L : List UInt8} {dp : Int} {neg : Bool} {Q : Exit → Act → World → Prop} (HQ : ∀ a w v, a.defers = [] → a.tmps.getD 16 undef = v → OwnB w B v L → Below B w0 w → Q .ret a w) (v : Value) (pr : Int) (m t : Nat) (a : Act) (w : World) (hS : S80 neg blk nd dp pr v 102 a) (hnd : nd ≤ 30) (hd0 : 0 < dp) (hd2 : dp ≤ 400) (hp1 : dp < nd → pr = (nd : Int) - dp) (hp0 : (nd : Int) ≤ dp → pr = 0) (hm : (m : Int) = min (nd : Int) dp) (ht : (t : Int) = dp - m) (hF : FE w0 B blk nd f v l w) (hl : l.length ≤ 200)
    (hL : L = (l ++ ((List.range m).map f ++ List.replicate t 48)) ++ (if dp < nd then 46 :: (List.replicate (-dp).toNat 48 ++ (List.range (nd - dp.toNat)).map fun i => f (dp.toNat + i)) else [])) : (fC 1).wp Tryz.prog Q a w := by
  have HF := Lib.hid hF
  have HL := Lib.hid hl
  have HQ := Lib.hid HQ
  have HLL := Lib.hid hL
  have HP1 := Lib.hid hp1
  have HP0 := Lib.hid hp0
  have HD0 := Lib.hid hd0
  have HD2 := Lib.hid hd2
  clear hF hl hL hp1 hp0
  have g0 : (0 < dp) = True := eq_true hd0
  have e1 : min (nd : Int) dp = (m : Int) := hm.symm
  have e2 : dp - (m : Int) = (t : Int) := ht.symm
  have b1 : m ≤ 30 := by omega
  have b2 : m ≤ nd := by omega
  have b3 : t ≤ 400 := by omega
  clear hm ht hd0 hd2
  obtain ⟨u, hu, hug⟩ := open272 hS.size
  have p0 := hS.s0; have p1 := hS.s1; have p2 := hS.s2; have p3 := hS.s3; have p4 := hS.s4; have p5 := hS.s5; have p6 := hS.s6
  have hdf := hS.df
  rw [hug _ (by omega)] at p0 p1 p2 p3 p4 p5 p6
  obtain ⟨tm, df⟩ := a
  dsimp only at hu hdf
  subst hu hdf
  clear hS hug
  rw [p0, p1, p2, p3, p4, p5, p6]
  clear p0 p1 p2 p3 p4 p5 p6
  conv => arg 2; whnf
  refine wp_seq_k fun K hK => ?_
  have HK := Lib.hid (show ∀ a w', (fC 2).wp Tryz.prog Q a w' → K a w' from hK)
  clear hK
  go_wp2_with fail
  rename_i K1 hK1
  have HK1 := Lib.hid hK1
  clear hK1
  refine wp_loop (fun a' wr => Y80 neg blk nd dp pr m a' ∧ a'.tmps.getD 189 undef = .slice (some ⟨blk, 0, none⟩) m 32 ∧ a'.tmps.getD 190 undef = .int .i64 m ∧ ∃ (i : Nat) (v : Value), i ≤ m ∧ a'.tmps.getD 191 undef = .int .i64 i ∧ a'.tmps.getD 0 undef = v ∧ Hid (FE w0 B blk nd f v (l ++ (List.range i).map f) wr)) (fun a' _ => m - (intOf (a'.tmps.getD 191 undef)).toNat) ?st ?rd
  case st =>
    refine ⟨⟨?_, ?_, ?_, ?_, ?_, ?_, ?_, ?_, ?_⟩, ?_, ?_, 0, v, Nat.zero_le _, ?_, ?_, Lib.hid (by simpa using HF.out)⟩
    all_goals rfl
  case rd =>
    clear HF
    rintro a wr ⟨hS, p189, p190, i, v, hi, p191, p0, HFi⟩
    obtain ⟨u, hu, hug⟩ := open272 hS.size
    have p1 := hS.s1; have p2 := hS.s2; have p3 := hS.s3; have p4 := hS.s4; have p5 := hS.s5; have p6 := hS.s6; have p23 := hS.s23
    have hdf := hS.df
    rw [hug _ (by omega)] at p1 p2 p3 p4 p5 p6 p23 p189 p190 p191 p0
    obtain ⟨tm, df⟩ := a
    dsimp only at hu hdf
    subst hu hdf
    clear hS hug
    rw [p1, p2, p3, p4, p5, p6, p23, p189, p190, p191, p0]
    clear p1 p2 p3 p4 p5 p6 p23 p189 p190 p191 p0
    by_cases him : i < m
    · have g1 : ((i : Int) < (m : Int)) = True := eq_true (by omega)
      obtain ⟨c, hc⟩ : ∃ c, c = f i := ⟨_, rfl⟩
      have z0 : wr.cell? ⟨blk, i, none⟩ = some (Value.int .u8 (c.toNat : Int)) := by rw [hc]; exact HFi.out.dig i (by omega)
      have HC := Lib.hid hc
      clear hc
      go_wp2_with (first
        | (at_builtin; refine fe_app rfl _ _ rfl (HFi.out.alloc _) rfl ⟨_, 0, none⟩ 1 _ [c] rfl rfl (news_of2 (l2 := [c]) rfl) ?c1 ?_)
        | fail)
      case c1 => have := HL.out; simp; omega
      intro vF2 wF2 hF2
      have F2 := Lib.hid hF2
      clear hF2
      go_wp2_with fail
      refine ⟨⟨⟨?_, ?_, ?_, ?_, ?_, ?_, ?_, ?_, ?_⟩, ?_, ?_, i + 1, vF2, by omega, ?_, ?_, Lib.hid ?_⟩, ?_⟩
      case refine_14 =>
        have h := F2.out
        rw [List.range_succ, List.map_append, List.map_cons, List.map_nil, ← HC.out]
        simpa using h
      case refine_15 =>
        show m - (intOf (.int .i64 _)).toNat < m - (intOf (.int .i64 (i : Int))).toNat
        simp [intOf] <;> omega
      all_goals first | rfl | skip
    · have g1 : ((i : Int) < (m : Int)) = False := eq_false (by omega)
      obtain rfl : i = m := by omega
      go_wp2_with fail
      refine HK1.out _ _ ?_
      go_wp2_with fail
      refine wp_loop (fun a' wr => Y80 neg blk nd dp pr i a' ∧ a'.tmps.getD 202 undef = .int .i64 t ∧ ∃ (j : Nat) (v : Value), j ≤ t ∧ a'.tmps.getD 203 undef = .int .i64 j ∧ a'.tmps.getD 0 undef = v ∧ Hid (FE w0 B blk nd f v (l ++ ((List.range i).map f ++ List.replicate j 48)) wr)) (fun a' _ => t - (intOf (a'.tmps.getD 203 undef)).toNat) ?st2 ?rd2
      case st2 =>
        refine ⟨⟨?_, ?_, ?_, ?_, ?_, ?_, ?_, ?_, ?_⟩, ?_, 0, v, Nat.zero_le _, ?_, ?_, Lib.hid (by simpa using HFi.out)⟩
        all_goals rfl
      case rd2 =>
        clear HFi
        rintro a wr ⟨hS, p202, j, v, hj, p203, p0, HFj⟩
        obtain ⟨u, hu, hug⟩ := open272 hS.size
        have p1 := hS.s1; have p2 := hS.s2; have p3 := hS.s3; have p4 := hS.s4; have p5 := hS.s5; have p6 := hS.s6; have p23 := hS.s23
        have hdf := hS.df
        rw [hug _ (by omega)] at p1 p2 p3 p4 p5 p6 p23 p202 p203 p0
        obtain ⟨tm, df⟩ := a
        dsimp only at hu hdf
        subst hu hdf
        clear hS hug
        rw [p1, p2, p3, p4, p5, p6, p23, p202, p203, p0]
        clear p1 p2 p3 p4 p5 p6 p23 p202 p203 p0
        by_cases hjt : j < t
        · have g1 : ((j : Int) < (t : Int)) = True := eq_true (by omega)
          go_wp2_with (first
            | (at_builtin; refine fe_app rfl _ _ rfl (HFj.out.alloc _) rfl ⟨_, 0, none⟩ 1 _ [48] rfl rfl (news_of2 (l2 := [48]) rfl) ?c1 ?_)
            | fail)
          case c1 => have := HL.out; simp; omega
          intro vF2 wF2 hF2
          have F2 := Lib.hid hF2
          clear hF2
          go_wp2_with fail
          refine ⟨⟨⟨?_, ?_, ?_, ?_, ?_, ?_, ?_, ?_, ?_⟩, ?_, j + 1, vF2, by omega, ?_, ?_, Lib.hid ?_⟩, ?_⟩
          case refine_13 =>
            have h := F2.out
            rw [List.replicate_succ']
            simpa using h
          case refine_14 =>
            show t - (intOf (.int .i64 _)).toNat < t - (intOf (.int .i64 (j : Int))).toNat
            simp [intOf] <;> omega
          all_goals first | rfl | skip
        · have g1 : ((j : Int) < (t : Int)) = False := eq_false (by omega)
          obtain rfl : j = t := by omega
          go_wp2_with fail
          refine HK.out _ _ (f2 (neg := neg) HQ.out _ pr _ _ ⟨?_, ?_, ?_, ?_, ?_, ?_, ?_, ?_, ?_⟩ hnd (by have := HD0.out; omega) (by have := HD2.out; omega) HP1.out HP0.out HFj.out (by have := HL.out; simp; omega) HLL.out)
          all_goals rfl
set_option maxRecDepth 100000 in
set_option maxHeartbeats 8000000 in
theorem f1a {w0 : World} {B blk nd : Nat} {f : Nat → UInt8} {l L : List UInt8} {dp : Int} {neg : Bool} {Q : Exit → Act → World → Prop} (HQ : ∀ a w v, a.defers = [] → a.tmps.getD 16 undef = v → OwnB w B v L → Below B w0 w → Q .ret a w) (v : Value) (pr : Int) (a : Act) (w : World) (hS : S80 neg blk nd dp pr v 102 a) (hnd : nd ≤ 30) (hd1 : -2000 ≤ dp) (hd0 : ¬ 0 < dp) (hp1 : dp < nd → pr = (nd : Int) - dp) (hp0 : (nd : Int) ≤ dp → pr = 0) (hF : FE w0 B blk nd f v l w) (hl : l.length ≤ 200)
    (hL : L = (l ++ [48]) ++ (if dp < nd then 46 :: (List.replicate (-dp).toNat 48 ++ (List.range (nd - dp.toNat)).map fun i => f (dp.toNat + i)) else [])) : (fC 1).wp Tryz.prog Q a w := by
  have HF := Lib.hid hF
  have HL := Lib.hid hl
  have HQ := Lib.hid HQ
  have HLL := Lib.hid hL
  have HP1 := Lib.hid hp1
  have HP0 := Lib.hid hp0
  have HD1 := Lib.hid hd1
  have HD0 := Lib.hid hd0
  clear hF hl hL hp1 hp0
  have g0 : (0 < dp) = False := eq_false hd0
  clear hd1 hd0
  obtain ⟨u, hu, hug⟩ := open272 hS.size
  have p0 := hS.s0; have p1 := hS.s1; have p2 := hS.s2; have p3 := hS.s3; have p4 := hS.s4; have p5 := hS.s5; have p6 := hS.s6
  have hdf := hS.df
  rw [hug _ (by omega)] at p0 p1 p2 p3 p4 p5 p6
  obtain ⟨tm, df⟩ := a
  dsimp only at hu hdf
  subst hu hdf
  clear hS hug
  rw [p0, p1, p2, p3, p4, p5, p6]
  clear p0 p1 p2 p3 p4 p5 p6
  conv => arg 2; whnf
  refine wp_seq_k fun K hK => ?_
  have HK := Lib.hid (show ∀ a w', (fC 2).wp Tryz.prog Q a w' → K a w' from hK)
  clear hK
  go_wp2_with (first
    | (at_builtin; refine fe_app rfl _ _ rfl (HF.out.alloc _) rfl ⟨_, 0, none⟩ 1 _ [48] rfl rfl (news_of2 (l2 := [48]) rfl) ?c1 ?_)
    | fail)
  case c1 => have := HL.out; simp; omega
  intro vF2 wF2 hF2
  have F2 := Lib.hid hF2
  clear hF2
  go_wp2_with fail
  refine HK.out _ _ (f2 (neg := neg) HQ.out _ pr _ _ ⟨?_, ?_, ?_, ?_, ?_, ?_, ?_, ?_, ?_⟩ hnd HD1.out (by have := HD0.out; omega) HP1.out HP0.out F2.out (by have := HL.out; simp; omega) HLL.out)
  all_goals rfl
theorem f1 {w0 : World} {B blk nd : Nat} {f : Nat → UInt8} {l L : List UInt8} {dp : Int} {neg : Bool} {Q : Exit → Act → World → Prop} (HQ : ∀ a w v, a.defers = [] → a.tmps.getD 16 undef = v → OwnB w B v L → Below B w0 w → Q .ret a w) (v : Value) (pr : Int) (a : Act) (w : World) (hS : S80 neg blk nd dp pr v 102 a) (hnd : nd ≤ 30) (hd1 : -2000 ≤ dp) (hd2 : dp ≤ 400) (hp1 : dp < nd → pr = (nd : Int) - dp) (hp0 : (nd : Int) ≤ dp → pr = 0) (hF : FE w0 B blk nd f v l w) (hl : l.length ≤ 200)
    (hL : L = l ++ fixL f dp nd) : (fC 1).wp Tryz.prog Q a w := by
  unfold fixL at hL
  by_cases h : 0 < dp
  · rw [if_pos h, ← List.append_assoc] at hL
    refine f1b HQ v pr (min nd dp.toNat) (dp.toNat - nd) a w hS hnd h hd2 hp1 hp0 (by omega) (by omega) hF hl hL
  · rw [if_neg h, ← List.append_assoc] at hL
    exact f1a HQ v pr a w hS hnd hd1 h hp1 hp0 hF hl hL
set_option maxRecDepth 100000 in
set_option maxHeartbeats 8000000 in
theorem f0 {w0 : World} {B blk nd : Nat} {f : Nat → UInt8} {l L : List UInt8} {dp : Int} {neg : Bool} {Q : Exit → Act → World → Prop} (HQ : ∀ a w v, a.defers = [] → a.tmps.getD 16 undef = v → OwnB w B v L → Below B w0 w → Q .ret a w) (v : Value) (pr : Int) (a : Act) (w : World) (hS : S80 neg blk nd dp pr v 102 a) (hnd : nd ≤ 30) (hd1 : -2000 ≤ dp) (hd2 : dp ≤ 400) (hp1 : dp < nd → pr = (nd : Int) - dp) (hp0 : (nd : Int) ≤ dp → pr = 0) (hF : FE w0 B blk nd f v l w) (hl : l.length ≤ 100)
    (hL : L = l ++ ((if neg then [45] else []) ++ fixL f dp nd)) : (fC 0).wp Tryz.prog Q a w := by
  have HF := Lib.hid hF
  have HL := Lib.hid hl
  have HQ := Lib.hid HQ
  have HP1 := Lib.hid hp1
  have HP0 := Lib.hid hp0
  have HD1 := Lib.hid hd1
  have HD2 := Lib.hid hd2
  clear hF hl hp1 hp0 hd1 hd2
  cases neg with
  | true =>
    have HL2 := Lib.hid (show L = (l ++ [45]) ++ fixL f dp nd from by rw [hL]; simp)
    clear hL
    obtain ⟨u, hu, hug⟩ := open272 hS.size
    have p0 := hS.s0; have p1 := hS.s1; have p2 := hS.s2; have p3 := hS.s3; have p4 := hS.s4; have p5 := hS.s5; have p6 := hS.s6
    have hdf := hS.df
    rw [hug _ (by omega)] at p0 p1 p2 p3 p4 p5 p6
    obtain ⟨tm, df⟩ := a
    dsimp only at hu hdf
    subst hu hdf
    clear hS hug
    rw [p0, p1, p2, p3, p4, p5, p6]
    clear p0 p1 p2 p3 p4 p5 p6
    conv => arg 2; whnf
    refine wp_seq_k fun K0 hK0 => ?_
    have HK0 := Lib.hid (show ∀ a w', (fC 1).wp Tryz.prog Q a w' → K0 a w' from hK0)
    clear hK0
    go_wp2_with (first
      | (at_builtin; refine fe_app rfl _ _ rfl (HF.out.alloc _) rfl ⟨_, 0, none⟩ 1 _ [45] rfl rfl (news_of2 (l2 := [45]) rfl) ?c1 ?_)
      | fail)
    case c1 => have := HL.out; simp; omega
    intro vF2 wF2 hF2
    have F2 := Lib.hid hF2
    clear hF2
    go_wp2_with fail
    refine HK0.out _ _ (f1 (neg := true) HQ.out _ pr _ _ ⟨?_, ?_, ?_, ?_, ?_, ?_, ?_, ?_, ?_⟩ hnd HD1.out HD2.out HP1.out HP0.out F2.out (by have := HL.out; simp; omega) HL2.out)
    all_goals rfl
  | false =>
    have HL2 := Lib.hid (show L = l ++ fixL f dp nd from by rw [hL]; simp)
    clear hL
    obtain ⟨u, hu, hug⟩ := open272 hS.size
    have p0 := hS.s0; have p1 := hS.s1; have p2 := hS.s2; have p3 := hS.s3; have p4 := hS.s4; have p5 := hS.s5; have p6 := hS.s6
    have hdf := hS.df
    rw [hug _ (by omega)] at p0 p1 p2 p3 p4 p5 p6
    obtain ⟨tm, df⟩ := a
    dsimp only at hu hdf
    subst hu hdf
    clear hS hug
    rw [p0, p1, p2, p3, p4, p5, p6]
    clear p0 p1 p2 p3 p4 p5 p6
    conv => arg 2; whnf
    refine wp_seq_k fun K0 hK0 => ?_
    have HK0 := Lib.hid (show ∀ a w', (fC 1).wp Tryz.prog Q a w' → K0 a w' from hK0)
    clear hK0
    go_wp2_with fail
    refine HK0.out _ _ (f1 (neg := false) HQ.out _ pr _ _ ⟨?_, ?_, ?_, ?_, ?_, ?_, ?_, ?_, ?_⟩ hnd HD1.out HD2.out HP1.out HP0.out HF.out (by have := HL.out; omega) HL2.out)
    all_goals rfl
end Go.Proofs.YtoafiombpokpaaaGreatDoor
