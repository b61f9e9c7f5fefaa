/- The walk of strconv's ftoa64: from the digits on. -/
import Derived.Test.YtoafiombpokpaaaGreatDoorSetD
namespace Go.Proofs.YtoafiombpokpaaaGreatDoor
open Go.RowKit

set_option maxRecDepth 100000 in
theorem open298 {a : Act} (h : a.tmps.size = 298) : ∃ u : Nat → Value, a.tmps = #[u 0, u 1, u 2, u 3, u 4, u 5, u 6, u 7, u 8, u 9, u 10, u 11, u 12, u 13, u 14, u 15, u 16, u 17, u 18, u 19, u 20, u 21, u 22, u 23, u 24, u 25, u 26, u 27, u 28, u 29, u 30, u 31, u 32, u 33, u 34, u 35, u 36, u 37, u 38, u 39, u 40, u 41, u 42, u 43, u 44, u 45, u 46, u 47, u 48, u 49, u 50, u 51, u 52, u 53, u 54, u 55, u 56, u 57, u 58, u 59, u 60, u 61, u 62, u 63, u 64, u 65, u 66, u 67, u 68, u 69, u 70, u 71, u 72, u 73, u 74, u 75, u 76, u 77, u 78, u 79, u 80, u 81, u 82, u 83, u 84, u 85, u 86, u 87, u 88, u 89, u 90, u 91, u 92, u 93, u 94, u 95, u 96, u 97, u 98, u 99, u 100, u 101, u 102, u 103, u 104, u 105, u 106, u 107, u 108, u 109, u 110, u 111, u 112, u 113, u 114, u 115, u 116, u 117, u 118, u 119, u 120, u 121, u 122, u 123, u 124, u 125, u 126, u 127, u 128, u 129, u 130, u 131, u 132, u 133, u 134, u 135, u 136, u 137, u 138, u 139, u 140, u 141, u 142, u 143, u 144, u 145, u 146, u 147, u 148, u 149, u 150, u 151, u 152, u 153, u 154, u 155, u 156, u 157, u 158, u 159, u 160, u 161, u 162, u 163, u 164, u 165, u 166, u 167, u 168, u 169, u 170, u 171, u 172, u 173, u 174, u 175, u 176, u 177, u 178, u 179, u 180, u 181, u 182, u 183, u 184, u 185, u 186, u 187, u 188, u 189, u 190, u 191, u 192, u 193, u 194, u 195, u 196, u 197, u 198, u 199, u 200, u 201, u 202, u 203, u 204, u 205, u 206, u 207, u 208, u 209, u 210, u 211, u 212, u 213, u 214, u 215, u 216, u 217, u 218, u 219, u 220, u 221, u 222, u 223, u 224, u 225, u 226, u 227, u 228, u 229, u 230, u 231, u 232, u 233, u 234, u 235, u 236, u 237, u 238, u 239, u 240, u 241, u 242, u 243, u 244, u 245, u 246, u 247, u 248, u 249, u 250, u 251, u 252, u 253, u 254, u 255, u 256, u 257, u 258, u 259, u 260, u 261, u 262, u 263, u 264, u 265, u 266, u 267, u 268, u 269, u 270, u 271, u 272, u 273, u 274, u 275, u 276, u 277, u 278, u 279, u 280, u 281, u 282, u 283, u 284, u 285, u 286, u 287, u 288, u 289, u 290, u 291, u 292, u 293, u 294, u 295, u 296, u 297] ∧ ∀ t, t < 298 → a.tmps.getD t undef = u t := by
  refine ⟨fun t => a.tmps.getD t undef, ?_, fun t _ => rfl⟩
  have e : a.tmps = ((List.range 298).map fun t => a.tmps.getD t undef).toArray := by
    apply Array.ext
    · simp [h]
    · intro i h1 h2
      simp [h1]
  exact e
/-- strconv's ftoa64, from its part k on -/
noncomputable def aC (k : Nat) : Code := dropC k (Tryz.f55.body.getD .skip)
structure S55 (v : Value) (neg : Bool) (m : Nat) (e : Int) (a : Act) : Prop where
  size : a.tmps.size = 298
  df : a.defers = []
  s0 : a.tmps.getD 0 undef = v
  s2 : a.tmps.getD 2 undef = .int .u8 103
  s3 : a.tmps.getD 3 undef = .int .i64 (-1)
  s11 : a.tmps.getD 11 undef = .int .i64 52
  s13 : a.tmps.getD 13 undef = .bool neg
  s14 : a.tmps.getD 14 undef = .int .i64 e
  s15 : a.tmps.getD 15 undef = .int .u64 (m : Int)
set_option maxRecDepth 100000 in
set_option maxHeartbeats 8000000 in
theorem fa_zero (w0 : World) (B : Nat) (v : Value) (neg : Bool) (e : Int) (a : Act) (w : World) (hS : S55 v neg 0 e a) (hO : OwnB w B v []) (hb : Below B w0 w) (hB : B ≤ w.heap.size) (h8 : 8 < B) (L : List UInt8) (hL : L = if neg then [45, 48] else [48]) :
    (aC 10).wp Tryz.prog (bodyPost Tryz.prog Tryz.f55 (FmtO w0 B L)) a w := by
  have HZ := Lib.hid (fun W (h : FE w0 B 8 0 (fun _ => 0) v [] W) => show Calls Tryz.prog 80 #[v, .bool neg, .slice none 0 0, .int .i64 0, .int .i64 0, .int .i64 (-1), .int .u8 103, .bool true] W (FmtO w0 B L) from by rw [hL]; simpa using fmt_zero w0 B 8 (fun _ => 0) [] neg v W h (by simp))
  clear hL
  have HF := Lib.hid (show FE w0 B 8 0 (fun _ => 0) v [] w from ⟨hb, hB, hO, fun t ht => by omega, by omega, fun e => by have := (own_base hO 8 e).1; omega⟩)
  clear hO hb hB
  obtain ⟨u, hu, hug⟩ := open298 hS.size
  have p0 := hS.s0; have p2 := hS.s2; have p3 := hS.s3; have p11 := hS.s11; have p13 := hS.s13; have p14 := hS.s14; have p15 := hS.s15
  have hdf := hS.df
  rw [hug _ (by omega)] at p0 p2 p3 p11 p13 p14 p15
  obtain ⟨tm, df⟩ := a
  dsimp only at hu hdf
  subst hu hdf
  clear hS hug
  rw [p0, p2, p3, p11, p13, p14, p15]
  clear p0 p2 p3 p11 p13 p14 p15
  conv => arg 2; whnf
  refine wp_seq_k fun K0 hK0 => ?_
  have HK0 := Lib.hid hK0
  clear hK0
  go_wp2_with fail
  refine HK0.out _ _ ?_
  refine wp_seq_k fun K1 hK1 => ?_
  have HK1 := Lib.hid hK1
  clear hK1
  go_wp2_with fail
  refine HK1.out _ _ ?_
  refine wp_seq_k fun K2 hK2 => ?_
  have HK2 := Lib.hid hK2
  clear hK2
  go_wp2_with (first
    | (go_at_call 80; (with_reducible refine (HZ.out _ HF.out).mono ?_); rintro e1 w1 ⟨v1, rfl, ho1, hb1⟩; have HO1 := Lib.hid ho1; have HB1 := Lib.hid hb1; clear ho1 hb1)
    | fail)
  exact bodyPost_ret (res_t (i := 8) (s := v1) rfl rfl) rfl ⟨v1, rfl, HO1.out, HB1.out⟩
end Go.Proofs.YtoafiombpokpaaaGreatDoor
