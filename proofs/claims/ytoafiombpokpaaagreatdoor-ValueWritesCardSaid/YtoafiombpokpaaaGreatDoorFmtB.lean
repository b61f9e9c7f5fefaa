/- The walk of strconv's fmtEFG: what is shared. -/
import Derived.Test.YtoafiombpokpaaaGreatDoorFmtA
namespace Go.Proofs.YtoafiombpokpaaaGreatDoor
open Go.RowKit

def condA : Code → Code
  | .cond _ a _ => a
  | c => c
def condB : Code → Code
  | .cond _ _ b => b
  | c => c
def seqA : Code → Code
  | .seq a _ => a
  | c => c
def seqB : Code → Code
  | .seq _ b => b
  | c => c
def blockC : Code → Code
  | .block _ c => c
  | c => c
/-- with an exponent, from its part k on -/
noncomputable def eC (k : Nat) : Code := dropC k (condA (seqB (blockC (seqB (seqA (dropC 2 (Tryz.f80.body.getD .skip)))))))
set_option maxRecDepth 100000 in
theorem open272 {a : Act} (h : a.tmps.size = 272) : ∃ u : Nat → Value, a.tmps = #[u 0, u 1, u 2, u 3, u 4, u 5, u 6, u 7, u 8, u 9, u 10, u 11, u 12, u 13, u 14, u 15, u 16, u 17, u 18, u 19, u 20, u 21, u 22, u 23, u 24, u 25, u 26, u 27, u 28, u 29, u 30, u 31, u 32, u 33, u 34, u 35, u 36, u 37, u 38, u 39, u 40, u 41, u 42, u 43, u 44, u 45, u 46, u 47, u 48, u 49, u 50, u 51, u 52, u 53, u 54, u 55, u 56, u 57, u 58, u 59, u 60, u 61, u 62, u 63, u 64, u 65, u 66, u 67, u 68, u 69, u 70, u 71, u 72, u 73, u 74, u 75, u 76, u 77, u 78, u 79, u 80, u 81, u 82, u 83, u 84, u 85, u 86, u 87, u 88, u 89, u 90, u 91, u 92, u 93, u 94, u 95, u 96, u 97, u 98, u 99, u 100, u 101, u 102, u 103, u 104, u 105, u 106, u 107, u 108, u 109, u 110, u 111, u 112, u 113, u 114, u 115, u 116, u 117, u 118, u 119, u 120, u 121, u 122, u 123, u 124, u 125, u 126, u 127, u 128, u 129, u 130, u 131, u 132, u 133, u 134, u 135, u 136, u 137, u 138, u 139, u 140, u 141, u 142, u 143, u 144, u 145, u 146, u 147, u 148, u 149, u 150, u 151, u 152, u 153, u 154, u 155, u 156, u 157, u 158, u 159, u 160, u 161, u 162, u 163, u 164, u 165, u 166, u 167, u 168, u 169, u 170, u 171, u 172, u 173, u 174, u 175, u 176, u 177, u 178, u 179, u 180, u 181, u 182, u 183, u 184, u 185, u 186, u 187, u 188, u 189, u 190, u 191, u 192, u 193, u 194, u 195, u 196, u 197, u 198, u 199, u 200, u 201, u 202, u 203, u 204, u 205, u 206, u 207, u 208, u 209, u 210, u 211, u 212, u 213, u 214, u 215, u 216, u 217, u 218, u 219, u 220, u 221, u 222, u 223, u 224, u 225, u 226, u 227, u 228, u 229, u 230, u 231, u 232, u 233, u 234, u 235, u 236, u 237, u 238, u 239, u 240, u 241, u 242, u 243, u 244, u 245, u 246, u 247, u 248, u 249, u 250, u 251, u 252, u 253, u 254, u 255, u 256, u 257, u 258, u 259, u 260, u 261, u 262, u 263, u 264, u 265, u 266, u 267, u 268, u 269, u 270, u 271] ∧ ∀ t, t < 272 → a.tmps.getD t undef = u t := by
  refine ⟨fun t => a.tmps.getD t undef, ?_, fun t _ => rfl⟩
  have e : a.tmps = ((List.range 272).map fun t => a.tmps.getD t undef).toArray := by
    apply Array.ext
    · simp [h]
    · intro i h1 h2
      simp [h1]
  exact e
structure S80 (neg : Bool) (blk nd : Nat) (dp prec : Int) (v : Value) (fm : Int) (a : Act) : Prop where
  size : a.tmps.size = 272
  df : a.defers = []
  s0 : a.tmps.getD 0 undef = v
  s1 : a.tmps.getD 1 undef = .bool neg
  s2 : a.tmps.getD 2 undef = .slice (some ⟨blk, 0, none⟩) 32 32
  s3 : a.tmps.getD 3 undef = .int .i64 dp
  s4 : a.tmps.getD 4 undef = .int .i64 (nd : Int)
  s5 : a.tmps.getD 5 undef = .int .i64 prec
  s6 : a.tmps.getD 6 undef = .int .u8 fm
theorem news_of2 {w : World} {cs : Array Value} {l2 : List UInt8} (h : cs = (l2.map byV).toArray) : ∀ (j : Nat) (b : UInt8), l2[j]? = some b → (w.alloc (.cells cs 5)).cell? ((⟨w.heap.size, 0, none⟩ : Addr).add j) = some (byV b) := by
  rw [h]
  exact news_of w l2
set_option maxRecDepth 100000 in
set_option maxHeartbeats 8000000 in
theorem e_ret {w0 : World} {B blk nd : Nat} {f : Nat → UInt8} {l L : List UInt8} {dp : Int} {neg : Bool} {Q : Exit → Act → World → Prop} (HQ : ∀ a w v, a.defers = [] → a.tmps.getD 16 undef = v → OwnB w B v L → Below B w0 w → Q .ret a w) (v : Value) (prec : Int) (a : Act) (w : World) (hS : S80 neg blk nd dp prec v 101 a) (h22 : a.tmps.getD 22 undef = .int .i64 ((expN dp nd).natAbs : Int)) (hx : (expN dp nd).natAbs < 1000) (hF : FE w0 B blk nd f v l w) (hl : l.length ≤ 1000) (hL : L = l ++ expD (expN dp nd).natAbs) : (eC 10).wp Tryz.prog Q a w := by
  obtain ⟨n, hn⟩ : ∃ n, n = (expN dp nd).natAbs := ⟨_, rfl⟩
  rw [← hn] at h22 hx hL
  clear hn
  have HF := Lib.hid hF
  have HL := Lib.hid hl
  have HQ := Lib.hid HQ
  clear hF hl
  obtain ⟨u, hu, hug⟩ := open272 hS.size
  have p0 := hS.s0; have p1 := hS.s1; have p2 := hS.s2; have p3 := hS.s3; have p4 := hS.s4; have p5 := hS.s5; have p6 := hS.s6
  have hdf := hS.df
  rw [hug _ (by omega)] at p0 p1 p2 p3 p4 p5 p6 h22
  obtain ⟨tm, df⟩ := a
  dsimp only at hu hdf
  subst hu hdf
  clear hS hug
  rw [p0, p1, p2, p3, p4, p5, p6, h22]
  clear p0 p1 p2 p3 p4 p5 p6 h22
  conv => arg 2; whnf
  by_cases h10 : n < 10
  · have g1 : ((n : Int) < 10) = True := eq_true (by omega)
    obtain ⟨b, hb⟩ : ∃ b : UInt8, b = UInt8.ofNat (48 + n) := ⟨_, rfl⟩
    have hE : L = l ++ [48, b] := by rw [hL]; unfold expD; rw [if_pos h10]; rw [hb]
    have HCS := Lib.hid (show (#[.int .u8 48, .int .u8 ((n : Int) + 48)] : Array Value) = ([48, b].map byV).toArray from by show _ = #[byV 48, byV b]; rw [hb, byV_ofNat (by omega), show ((48 + n : Nat) : Int) = (n : Int) + 48 by omega]; rfl)
    clear hL hb
    go_wp2_with (first
      | (at_builtin; refine fe_app rfl _ _ rfl (HF.out.alloc _) rfl ⟨_, 0, none⟩ 2 _ [48, b] rfl rfl (news_of2 HCS.out) ?c1 ?_)
      | fail)
    case c1 => have := HL.out; simp only [List.length_cons, List.length_nil]; omega
    intro v' w' hF2
    have HF2 := Lib.hid hF2
    have HE := Lib.hid hE
    clear hF2 hE
    go_wp2_with fail
    exact HQ.out _ _ _ rfl rfl (HE.out ▸ HF2.out.own) HF2.out.below
  · have g1 : ((n : Int) < 10) = False := eq_false (by omega)
    by_cases h100 : n < 100
    · have g2 : ((n : Int) < 100) = True := eq_true (by omega)
      obtain ⟨d, hd⟩ : ∃ d, d = n / 10 := ⟨_, rfl⟩
      obtain ⟨r, hr⟩ : ∃ r, r = n % 10 := ⟨_, rfl⟩
      have q1 : (n : Int) / 10 = (d : Int) := by omega
      have q2 : (n : Int) % 10 = (r : Int) := by omega
      have q3 : (n : Int).tdiv 10 = (d : Int) := by rw [Int.tdiv_eq_ediv_of_nonneg (by omega)]; omega
      have q4 : (n : Int).tmod 10 = (r : Int) := by rw [Int.tmod_eq_emod_of_nonneg (by omega)]; omega
      have b1 : d < 10 := by omega
      have b2 : r < 10 := by omega
      obtain ⟨b, hb⟩ : ∃ b : UInt8, b = UInt8.ofNat (48 + n / 10) := ⟨_, rfl⟩
      obtain ⟨c, hc⟩ : ∃ b : UInt8, b = UInt8.ofNat (48 + n % 10) := ⟨_, rfl⟩
      have hE : L = l ++ [b, c] := by rw [hL]; unfold expD; rw [if_neg h10, if_pos h100]; rw [hb, hc]
      have HCS := Lib.hid (show (#[.int .u8 ((d : Int) + 48), .int .u8 ((r : Int) + 48)] : Array Value) = ([b, c].map byV).toArray from by show _ = #[byV b, byV c]; rw [hb, hc, byV_ofNat (by omega), byV_ofNat (by omega), show ((48 + n / 10 : Nat) : Int) = (d : Int) + 48 by omega, show ((48 + n % 10 : Nat) : Int) = (r : Int) + 48 by omega])
      clear hL hb hc hd hr
      go_wp2_with (first
        | (at_builtin; refine fe_app rfl _ _ rfl (HF.out.alloc _) rfl ⟨_, 0, none⟩ 2 _ [b, c] rfl rfl (news_of2 HCS.out) ?c1 ?_)
        | fail)
      case c1 => have := HL.out; simp only [List.length_cons, List.length_nil]; omega
      intro v' w' hF2
      have HF2 := Lib.hid hF2
      have HE := Lib.hid hE
      clear hF2 hE
      go_wp2_with fail
      exact HQ.out _ _ _ rfl rfl (HE.out ▸ HF2.out.own) HF2.out.below
    · have g2 : ((n : Int) < 100) = False := eq_false (by omega)
      obtain ⟨d, hd⟩ : ∃ d, d = n / 100 := ⟨_, rfl⟩
      obtain ⟨h, hh⟩ : ∃ h, h = n / 10 := ⟨_, rfl⟩
      obtain ⟨k, hk⟩ : ∃ k, k = n / 10 % 10 := ⟨_, rfl⟩
      obtain ⟨r, hr⟩ : ∃ r, r = n % 10 := ⟨_, rfl⟩
      have q1 : (n : Int) / 100 = (d : Int) := by omega
      have q0 : (n : Int) / 10 = (h : Int) := by omega
      have q2 : (n : Int) % 10 = (r : Int) := by omega
      have q5 : (h : Int) % 10 = (k : Int) := by omega
      have b0 : h < 100 := by omega
      have b1 : d < 10 := by omega
      have b2 : r < 10 := by omega
      have b3 : k < 10 := by omega
      obtain ⟨b, hb⟩ : ∃ b : UInt8, b = UInt8.ofNat (48 + n / 100) := ⟨_, rfl⟩
      obtain ⟨c, hc⟩ : ∃ b : UInt8, b = UInt8.ofNat (48 + n / 10 % 10) := ⟨_, rfl⟩
      obtain ⟨e, he⟩ : ∃ b : UInt8, b = UInt8.ofNat (48 + n % 10) := ⟨_, rfl⟩
      have hE : L = l ++ [b, c, e] := by rw [hL]; unfold expD; rw [if_neg h10, if_neg h100]; rw [hb, hc, he]
      have HCS := Lib.hid (show (#[.int .u8 ((d : Int) + 48), .int .u8 ((k : Int) + 48), .int .u8 ((r : Int) + 48)] : Array Value) = ([b, c, e].map byV).toArray from by show _ = #[byV b, byV c, byV e]; rw [hb, hc, he, byV_ofNat (by omega), byV_ofNat (by omega), byV_ofNat (by omega), show ((48 + n / 100 : Nat) : Int) = (d : Int) + 48 by omega, show ((48 + n / 10 % 10 : Nat) : Int) = (k : Int) + 48 by omega, show ((48 + n % 10 : Nat) : Int) = (r : Int) + 48 by omega])
      clear hL hb hc he hd hr hk hh
      go_wp2_with (first
        | (at_builtin; refine fe_app rfl _ _ rfl (HF.out.alloc _) rfl ⟨_, 0, none⟩ 3 _ [b, c, e] rfl rfl (news_of2 HCS.out) ?c1 ?_)
        | fail)
      case c1 => have := HL.out; simp only [List.length_cons, List.length_nil]; omega
      intro v' w' hF2
      have HF2 := Lib.hid hF2
      have HE := Lib.hid hE
      clear hF2 hE
      go_wp2_with fail
      exact HQ.out _ _ _ rfl rfl (HE.out ▸ HF2.out.own) HF2.out.below
end Go.Proofs.YtoafiombpokpaaaGreatDoor
