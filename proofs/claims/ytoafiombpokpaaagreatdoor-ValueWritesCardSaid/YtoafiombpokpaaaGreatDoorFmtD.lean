/- The walk of strconv's fmtEFG with an exponent: its digits. -/
import Derived.Test.YtoafiombpokpaaaGreatDoorFmtC
namespace Go.Proofs.YtoafiombpokpaaaGreatDoor
open Go.RowKit

theorem fe_piece {w0 : World} {B blk nd : Nat} {f : Nat → UInt8} {v : Value} {l : List UInt8} {W : World} (h : FE w0 B blk nd f v l W) (k n : Nat) (hk : k + n ≤ nd) : ∀ (j : Nat) (b : UInt8), ((List.range n).map fun i => f (k + i))[j]? = some b → W.cell? ((⟨blk, k, none⟩ : Addr).add j) = some (byV b) := by
  intro j b hj
  rw [List.getElem?_map, Option.map_eq_some_iff] at hj
  obtain ⟨i, hi, rfl⟩ := hj
  obtain ⟨h1, h2⟩ := List.getElem?_eq_some_iff.1 hi
  rw [List.getElem_range] at h2
  subst h2
  rw [List.length_range] at h1
  rw [Addr.add_lit]
  exact h.dig (k + j) (by omega)
set_option maxRecDepth 100000 in
set_option maxHeartbeats 8000000 in
theorem e2 {w0 : World} {B blk nd : Nat} {f : Nat → UInt8} {l L : List UInt8} {dp : Int} {neg : Bool} {Q : Exit → Act → World → Prop} (HQ : ∀ a w v, a.defers = [] → a.tmps.getD 16 undef = v → OwnB w B v L → Below B w0 w → Q .ret a w) (v : Value) (a : Act) (w : World) (hS : S80 neg blk nd dp ((nd : Int) - 1) v 101 a) (hnd : nd ≤ 30) (hx : (expN dp nd).natAbs < 1000) (hd1 : -2000 ≤ dp) (hd2 : dp ≤ 2000) (hF : FE w0 B blk nd f v l w) (hl : l.length ≤ 800)
    (hL : L = (l ++ (if 1 < nd then 46 :: (List.range (nd - 1)).map (fun i => f (1 + i)) else [])) ++ 101 :: (if expN dp nd < 0 then 45 else 43) :: expD (expN dp nd).natAbs) : (eC 4).wp Tryz.prog Q a w := by
  have HF := Lib.hid hF
  have HL := Lib.hid hl
  have HQ := Lib.hid HQ
  have HLL := Lib.hid hL
  clear hF hl hL
  by_cases h1 : 1 < nd
  · have HLL := Lib.hid (show L = (l ++ 46 :: (List.range (nd - 1)).map (fun i => f (1 + i))) ++ 101 :: (if expN dp nd < 0 then 45 else 43) :: expD (expN dp nd).natAbs from by rw [HLL.out, if_pos h1])
    obtain ⟨l2, hl2⟩ : ∃ l2, l2 = (List.range (nd - 1)).map (fun i => f (1 + i)) := ⟨_, rfl⟩
    have HN := Lib.hid (show l2.length = nd - 1 from by rw [hl2, List.length_map, List.length_range])
    have HPC := Lib.hid (show ∀ v l W, FE w0 B blk nd f v l W → ∀ (j : Nat) (b : UInt8), l2[j]? = some b → W.cell? ((⟨blk, 1, none⟩ : Addr).add j) = some (byV b) from fun v l W h => by rw [hl2]; exact fe_piece h 1 (nd - 1) (by omega))
    rw [← hl2] at HLL
    clear hl2
    have g1 : (0 < (nd : Int) - 1) = True := eq_true (by omega)
    have g2 : (1 < (nd : Int)) = True := eq_true (by omega)
    obtain ⟨u, hu, hug⟩ := open272 hS.size
    have p0 := hS.s0; have p1 := hS.s1; have p2 := hS.s2; have p3 := hS.s3; have p4 := hS.s4; have p5 := hS.s5; have p6 := hS.s6
    have hdf := hS.df
    rw [hug _ (by omega)] at p0 p1 p2 p3 p4 p5 p6
    obtain ⟨tm, df⟩ := a
    dsimp only at hu hdf
    subst hu hdf
    clear hS hug
    rw [p0, p1, p2, p3, p4, p5, p6]
    clear p0 p1 p2 p3 p4 p5 p6
    conv => arg 2; whnf
    refine wp_seq_k fun K hK => ?_
    have HK := Lib.hid (show ∀ a w', (eC 5).wp Tryz.prog Q a w' → K a w' from hK)
    clear hK
    go_wp2_with (first
      | (at_builtin; refine fe_app rfl _ _ rfl (HF.out.alloc _) rfl ⟨_, 0, none⟩ 1 _ [46] rfl rfl (news_of2 (l2 := [46]) rfl) ?c1 ?_)
      | fail)
    case c1 => have := HL.out; simp; omega
    intro v1 w1 h1
    have F1 := Lib.hid h1
    clear h1
    go_wp2_with (first
      | (at_builtin; refine fe_app rfl _ _ rfl F1.out rfl ⟨blk, 1, none⟩ (nd - 1) 31 l2 HN.out.symm rfl (HPC.out _ _ _ F1.out) ?c2 ?_)
      | fail)
    case c2 => have h1 := HL.out; have h2 := HN.out; simp; omega
    intro v2 w2 h2
    have F2 := Lib.hid h2
    clear h2
    go_wp2_with fail
    refine wp_loop (fun a' wr => a' = _ ∧ wr = w2) (fun _ _ => 0) ⟨rfl, rfl⟩ ?_
    rintro a' wr ⟨rfl, rfl⟩
    go_wp2_with fail
    refine HK.out _ _ (e3 (neg := neg) HQ.out _ ((nd : Int) - 1) _ _ ⟨?_, ?_, ?_, ?_, ?_, ?_, ?_, ?_, ?_⟩ hx hd1 hd2 F2.out (by have h1 := HL.out; have h2 := HN.out; simp; omega) HLL.out)
    all_goals rfl
  · have HLL := Lib.hid (show L = l ++ 101 :: (if expN dp nd < 0 then 45 else 43) :: expD (expN dp nd).natAbs from by rw [HLL.out, if_neg h1, List.append_nil])
    have g1 : (0 < (nd : Int) - 1) = False := eq_false (by omega)
    obtain ⟨u, hu, hug⟩ := open272 hS.size
    have p0 := hS.s0; have p1 := hS.s1; have p2 := hS.s2; have p3 := hS.s3; have p4 := hS.s4; have p5 := hS.s5; have p6 := hS.s6
    have hdf := hS.df
    rw [hug _ (by omega)] at p0 p1 p2 p3 p4 p5 p6
    obtain ⟨tm, df⟩ := a
    dsimp only at hu hdf
    subst hu hdf
    clear hS hug
    rw [p0, p1, p2, p3, p4, p5, p6]
    clear p0 p1 p2 p3 p4 p5 p6
    conv => arg 2; whnf
    refine wp_seq_k fun K hK => ?_
    have HK := Lib.hid (show ∀ a w', (eC 5).wp Tryz.prog Q a w' → K a w' from hK)
    clear hK
    go_wp2_with fail
    refine HK.out _ _ (e3 (neg := neg) HQ.out _ ((nd : Int) - 1) _ _ ⟨?_, ?_, ?_, ?_, ?_, ?_, ?_, ?_, ?_⟩ hx hd1 hd2 HF.out (by have := HL.out; simp; omega) HLL.out)
    all_goals rfl
end Go.Proofs.YtoafiombpokpaaaGreatDoor
