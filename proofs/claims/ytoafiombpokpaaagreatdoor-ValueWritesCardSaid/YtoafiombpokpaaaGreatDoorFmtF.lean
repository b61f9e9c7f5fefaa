/- The walk of strconv's fmtEFG without an exponent: the fraction. -/
import Derived.Test.YtoafiombpokpaaaGreatDoorFmtE
namespace Go.Proofs.YtoafiombpokpaaaGreatDoor
open Go.RowKit

/-- without an exponent, from its part k on -/
noncomputable def fC (k : Nat) : Code := dropC k (condA (seqB (condB (seqB (blockC (seqB (seqA (dropC 2 (Tryz.f80.body.getD .skip)))))))))
/-- while the fraction is written -/
structure X80 (neg : Bool) (blk nd : Nat) (dp pr : Int) (z o q : Nat) (a : Act) : Prop where
  size : a.tmps.size = 272
  df : a.defers = []
  s1 : a.tmps.getD 1 undef = .bool neg
  s2 : a.tmps.getD 2 undef = .slice (some ⟨blk, 0, none⟩) 32 32
  s3 : a.tmps.getD 3 undef = .int .i64 dp
  s4 : a.tmps.getD 4 undef = .int .i64 (nd : Int)
  s5 : a.tmps.getD 5 undef = .int .i64 pr
  s6 : a.tmps.getD 6 undef = .int .u8 102
  s26 : a.tmps.getD 26 undef = .int .i64 (z : Int)
  s27 : a.tmps.getD 27 undef = .int .i64 (o : Int)
  s28 : a.tmps.getD 28 undef = .int .i64 (q : Int)
  s29 : a.tmps.getD 29 undef = .int .i64 0
set_option maxRecDepth 100000 in
set_option maxHeartbeats 8000000 in
theorem f3 {w0 : World} {B blk nd : Nat} {f : Nat → UInt8} {L : List UInt8} {dp : Int} {neg : Bool} {Q : Exit → Act → World → Prop} (HQ : ∀ a w v, a.defers = [] → a.tmps.getD 16 undef = v → OwnB w B v L → Below B w0 w → Q .ret a w) (v : Value) (prec : Int) (a : Act) (w : World) (hS : S80 neg blk nd dp prec v 102 a) (hF : FE w0 B blk nd f v L w) : (fC 3).wp Tryz.prog Q a w := by
  have HF := Lib.hid hF
  have HQ := Lib.hid HQ
  clear hF
  obtain ⟨u, hu, hug⟩ := open272 hS.size
  have p0 := hS.s0; have p1 := hS.s1; have p2 := hS.s2; have p3 := hS.s3; have p4 := hS.s4; have p5 := hS.s5; have p6 := hS.s6
  have hdf := hS.df
  rw [hug _ (by omega)] at p0 p1 p2 p3 p4 p5 p6
  obtain ⟨tm, df⟩ := a
  dsimp only at hu hdf
  subst hu hdf
  clear hS hug
  rw [p0, p1, p2, p3, p4, p5, p6]
  clear p0 p1 p2 p3 p4 p5 p6
  conv => arg 2; whnf
  go_wp2_with fail
  exact HQ.out _ _ _ rfl rfl HF.out.own HF.out.below
set_option maxRecDepth 100000 in
set_option maxHeartbeats 8000000 in
theorem f2a {w0 : World} {B blk nd : Nat} {f : Nat → UInt8} {L : List UInt8} {dp : Int} {neg : Bool} {Q : Exit → Act → World → Prop} (HQ : ∀ a w v, a.defers = [] → a.tmps.getD 16 undef = v → OwnB w B v L → Below B w0 w → Q .ret a w) (v : Value) (a : Act) (w : World) (hS : S80 neg blk nd dp 0 v 102 a) (hF : FE w0 B blk nd f v L w) : (fC 2).wp Tryz.prog Q a w := by
  have HF := Lib.hid hF
  have HQ := Lib.hid HQ
  clear hF
  obtain ⟨u, hu, hug⟩ := open272 hS.size
  have p0 := hS.s0; have p1 := hS.s1; have p2 := hS.s2; have p3 := hS.s3; have p4 := hS.s4; have p5 := hS.s5; have p6 := hS.s6
  have hdf := hS.df
  rw [hug _ (by omega)] at p0 p1 p2 p3 p4 p5 p6
  obtain ⟨tm, df⟩ := a
  dsimp only at hu hdf
  subst hu hdf
  clear hS hug
  rw [p0, p1, p2, p3, p4, p5, p6]
  clear p0 p1 p2 p3 p4 p5 p6
  conv => arg 2; whnf
  refine wp_seq_k fun K0 hK0 => ?_
  have HK0 := Lib.hid (show ∀ a w', (fC 3).wp Tryz.prog Q a w' → K0 a w' from hK0)
  clear hK0
  go_wp2_with fail
  refine HK0.out _ _ (f3 (neg := neg) (nd := nd) (dp := dp) HQ.out _ 0 _ _ ⟨?_, ?_, ?_, ?_, ?_, ?_, ?_, ?_, ?_⟩ HF.out)
  all_goals rfl
set_option maxRecDepth 100000 in
set_option maxHeartbeats 8000000 in
theorem f2b {w0 : World} {B blk nd : Nat} {f : Nat → UInt8} {l L : List UInt8} {dp : Int} {neg : Bool} {Q : Exit → Act → World → Prop} (HQ : ∀ a w v, a.defers = [] → a.tmps.getD 16 undef = v → OwnB w B v L → Below B w0 w → Q .ret a w) (v : Value) (pr : Int) (z o q : Nat) (a : Act) (w : World) (hS : S80 neg blk nd dp pr v 102 a) (hnd : nd ≤ 30) (hd1 : -2000 ≤ dp) (hd2 : dp ≤ 2000) (hF : FE w0 B blk nd f v l w) (hl : l.length ≤ 700)
    (hpr : pr = (nd : Int) - dp) (hz : (z : Int) = max 0 (-dp)) (ho : (o : Int) = max 0 dp) (hq : (q : Int) = nd - o) (hq0 : dp < nd)
    (hL : L = l ++ 46 :: (List.replicate z 48 ++ (List.range q).map fun i => f (o + i))) : (fC 2).wp Tryz.prog Q a w := by
  have HF := Lib.hid hF
  have HL := Lib.hid hl
  have HQ := Lib.hid HQ
  have HLL := Lib.hid hL
  clear hF hl hL
  have g0 : (0 < pr) = True := eq_true (by omega)
  obtain ⟨u, hu, hug⟩ := open272 hS.size
  have p0 := hS.s0; have p1 := hS.s1; have p2 := hS.s2; have p3 := hS.s3; have p4 := hS.s4; have p5 := hS.s5; have p6 := hS.s6
  have hdf := hS.df
  rw [hug _ (by omega)] at p0 p1 p2 p3 p4 p5 p6
  obtain ⟨tm, df⟩ := a
  dsimp only at hu hdf
  subst hu hdf
  clear hS hug
  rw [p0, p1, p2, p3, p4, p5, p6]
  clear p0 p1 p2 p3 p4 p5 p6
  conv => arg 2; whnf
  refine wp_seq_k fun K hK => ?_
  have HK := Lib.hid (show ∀ a w', (fC 3).wp Tryz.prog Q a w' → K a w' from hK)
  clear hK
  go_wp2_with (first
    | (at_builtin; refine fe_app rfl _ _ rfl (HF.out.alloc _) rfl ⟨_, 0, none⟩ 1 _ [46] rfl rfl (news_of2 (l2 := [46]) rfl) ?c1 ?_)
    | fail)
  case c1 => have := HL.out; simp; omega
  intro vF1 wF1 hF1
  have F1 := Lib.hid hF1
  clear hF1
  go_wp2_with fail
  have e1 : min ((nd : Int) - dp) (max 0 (-dp)) = (z : Int) := by omega
  have e2 : dp + (z : Int) = (o : Int) := by omega
  have e3 : min ((nd : Int) - dp - (z : Int)) (max 0 ((nd : Int) - (o : Int))) = (q : Int) := by omega
  have e4 : max 0 ((nd : Int) - dp - (z : Int) - (q : Int)) = 0 := by omega
  rw [e1, e2, e3, e4]
  have b1 : z ≤ 2000 := by omega
  have b2 : q ≤ 30 := by omega
  have b3 : o ≤ 30 := by omega
  have b4 : o + q = nd := by omega
  clear e1 e2 e3 e4 hz ho hq hpr g0 hd1 hd2
  generalize (nd : Int) - dp = pr2
  rename_i K1 hK1
  have HK1 := Lib.hid hK1
  clear hK1
  refine wp_loop (fun a' wr => X80 neg blk nd dp pr2 z o q a' ∧ a'.tmps.getD 239 undef = .int .i64 z ∧ ∃ (j : Nat) (v : Value), j ≤ z ∧ a'.tmps.getD 240 undef = .int .i64 j ∧ a'.tmps.getD 0 undef = v ∧ Hid (FE w0 B blk nd f v (l ++ 46 :: List.replicate j 48) wr)) (fun a' _ => z - (intOf (a'.tmps.getD 240 undef)).toNat) ?st ?rd
  case st =>
    refine ⟨⟨?_, ?_, ?_, ?_, ?_, ?_, ?_, ?_, ?_, ?_, ?_, ?_⟩, ?_, 0, vF1, Nat.zero_le _, ?_, ?_, F1⟩
    all_goals rfl
  case rd =>
    clear F1
    rintro a wr ⟨hS, p239, j, v, hj, p240, p0, HFj⟩
    obtain ⟨u, hu, hug⟩ := open272 hS.size
    have p1 := hS.s1; have p2 := hS.s2; have p3 := hS.s3; have p4 := hS.s4; have p5 := hS.s5; have p6 := hS.s6; have p26 := hS.s26; have p27 := hS.s27; have p28 := hS.s28; have p29 := hS.s29
    have hdf := hS.df
    rw [hug _ (by omega)] at p1 p2 p3 p4 p5 p6 p26 p27 p28 p29 p239 p240 p0
    obtain ⟨tm, df⟩ := a
    dsimp only at hu hdf
    subst hu hdf
    clear hS hug
    rw [p1, p2, p3, p4, p5, p6, p26, p27, p28, p29, p239, p240, p0]
    clear p1 p2 p3 p4 p5 p6 p26 p27 p28 p29 p239 p240 p0
    by_cases hjz : j < z
    · have g1 : ((j : Int) < (z : Int)) = True := eq_true (by omega)
      go_wp2_with (first
        | (at_builtin; refine fe_app rfl _ _ rfl (HFj.out.alloc _) rfl ⟨_, 0, none⟩ 1 _ [48] rfl rfl (news_of2 (l2 := [48]) rfl) ?c1 ?_)
        | fail)
      case c1 => have := HL.out; simp; omega
      intro vF2 wF2 hF2
      have F2 := Lib.hid hF2
      clear hF2
      go_wp2_with fail
      refine ⟨⟨⟨?_, ?_, ?_, ?_, ?_, ?_, ?_, ?_, ?_, ?_, ?_, ?_⟩, ?_, j + 1, vF2, by omega, ?_, ?_, Lib.hid ?_⟩, ?_⟩
      case refine_16 =>
        have h := F2.out
        rw [List.replicate_succ']
        simpa using h
      case refine_17 =>
        show z - (intOf (.int .i64 _)).toNat < z - (intOf (.int .i64 (j : Int))).toNat
        simp [intOf] <;> omega
      all_goals first | rfl | skip
    · have g1 : ((j : Int) < (z : Int)) = False := eq_false (by omega)
      obtain rfl : j = z := by omega
      go_wp2_with fail
      refine HK1.out _ _ ?_
      refine wp_seq_k fun K2 hK2 => ?_
      have HK2 := Lib.hid hK2
      clear hK2
      go_wp2_with fail
      refine wp_loop (fun a' wr => X80 neg blk nd dp pr2 j o q a' ∧ a'.tmps.getD 246 undef = .int .i64 q ∧ ∃ (i : Nat) (v : Value), i ≤ q ∧ a'.tmps.getD 247 undef = .int .i64 i ∧ a'.tmps.getD 0 undef = v ∧ Hid (FE w0 B blk nd f v (l ++ 46 :: (List.replicate j 48 ++ (List.range i).map fun i => f (o + i))) wr)) (fun a' _ => q - (intOf (a'.tmps.getD 247 undef)).toNat) ?st2 ?rd2
      case st2 =>
        refine ⟨⟨?_, ?_, ?_, ?_, ?_, ?_, ?_, ?_, ?_, ?_, ?_, ?_⟩, ?_, 0, v, Nat.zero_le _, ?_, ?_, Lib.hid (by simpa using HFj.out)⟩
        all_goals rfl
      case rd2 =>
        clear HFj
        rintro a wr ⟨hS, p246, i, v, hi, p247, p0, HFi⟩
        obtain ⟨u, hu, hug⟩ := open272 hS.size
        have p1 := hS.s1; have p2 := hS.s2; have p3 := hS.s3; have p4 := hS.s4; have p5 := hS.s5; have p6 := hS.s6; have p26 := hS.s26; have p27 := hS.s27; have p28 := hS.s28; have p29 := hS.s29
        have hdf := hS.df
        rw [hug _ (by omega)] at p1 p2 p3 p4 p5 p6 p26 p27 p28 p29 p246 p247 p0
        obtain ⟨tm, df⟩ := a
        dsimp only at hu hdf
        subst hu hdf
        clear hS hug
        rw [p1, p2, p3, p4, p5, p6, p26, p27, p28, p29, p246, p247, p0]
        clear p1 p2 p3 p4 p5 p6 p26 p27 p28 p29 p246 p247 p0
        by_cases hiq : i < q
        · have g1 : ((i : Int) < (q : Int)) = True := eq_true (by omega)
          obtain ⟨k, hk⟩ : ∃ k, k = o + i := ⟨_, rfl⟩
          have q1 : (o : Int) + (i : Int) = (k : Int) := by omega
          have b5 : k < 30 := by omega
          obtain ⟨c, hc⟩ : ∃ c, c = f k := ⟨_, rfl⟩
          have z0 : wr.cell? ⟨blk, k, none⟩ = some (Value.int .u8 (c.toNat : Int)) := by rw [hc]; exact HFi.out.dig k (by omega)
          have HC := Lib.hid (show c = f (o + i) from by rw [hc, hk])
          clear hc hk
          go_wp2_with (first
            | (at_builtin; refine fe_app rfl _ _ rfl (HFi.out.alloc _) rfl ⟨_, 0, none⟩ 1 _ [c] rfl rfl (news_of2 (l2 := [c]) rfl) ?c1 ?_)
            | fail)
          case c1 => have := HL.out; simp; omega
          intro vF2 wF2 hF2
          have F2 := Lib.hid hF2
          clear hF2
          go_wp2_with fail
          refine ⟨⟨⟨?_, ?_, ?_, ?_, ?_, ?_, ?_, ?_, ?_, ?_, ?_, ?_⟩, ?_, i + 1, vF2, by omega, ?_, ?_, Lib.hid ?_⟩, ?_⟩
          case refine_16 =>
            have h := F2.out
            rw [List.range_succ, List.map_append, List.map_cons, List.map_nil, ← HC.out]
            simpa using h
          case refine_17 =>
            show q - (intOf (.int .i64 _)).toNat < q - (intOf (.int .i64 (i : Int))).toNat
            simp [intOf] <;> omega
          all_goals first | rfl | skip
        · have g1 : ((i : Int) < (q : Int)) = False := eq_false (by omega)
          obtain rfl : i = q := by omega
          go_wp2_with fail
          refine HK2.out _ _ ?_
          go_wp2_with fail
          refine wp_loop (fun a' wx => a' = _ ∧ wx = wr) (fun _ _ => 0) ⟨rfl, rfl⟩ ?_
          rintro a' wx ⟨rfl, rfl⟩
          go_wp2_with fail
          refine HK.out _ _ (f3 (neg := neg) (dp := dp) HQ.out _ pr2 _ _ ⟨?_, ?_, ?_, ?_, ?_, ?_, ?_, ?_, ?_⟩ (HLL.out ▸ HFi.out))
          all_goals rfl
end Go.Proofs.YtoafiombpokpaaaGreatDoor
