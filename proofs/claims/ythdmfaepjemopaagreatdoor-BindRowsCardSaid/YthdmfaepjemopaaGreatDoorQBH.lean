/- The walk of the document's Bind where there is no table: its beginning, its contract. The walk of the document's Rows. -/
import Derived.Test.YthdmfaepjemopaaGreatDoorQBG
namespace Go.Proofs.YthdmfaepjemopaaGreatDoor
open Go.RowKit

set_option maxRecDepth 100000 in
set_option maxHeartbeats 16000000 in
theorem rb3_f (n : Nat) (w : World) (k : Int) (op : ByteArray) (lk ln : Int) (lf : Nat) (ls tn nm : ByteArray) (ng : Bool) (xa : Option Addr) (q xc : Nat) (h45 : ∀ W, Calls Tryz.prog 45 #[.agg #[.int .i64 k, .string op, .int .i64 lk, .int .i64 ln, .float .f64 lf, .string ls, .string tn, .string nm, .bool ng, .slice xa q xc]] W (RetV (.bool true) W)) (m : Int) (r : Except Int Nd) (hr : r = .error 132) (a : Act) (W : World) (hS : S27 w m a) (hM : BX w [.cells #[.slice none 0 0, .slice none 0 0, .slice none 0 0, .bool false] 92, .cells #[.int .i64 k, .string op, .int .i64 lk, .int .i64 ln, .float .f64 lf, .string ls, .string tn, .string nm, .bool ng, .slice xa q xc] 41, .cells #[.int .i64 0, .string ⟨#[]⟩, .int .i64 0, .int .i64 0, .float .f64 0, .string ⟨#[]⟩, .int .i64 0, .bool false, .int .i64 0, .slice none 0 0] 54, .cells #[.int .i64 0, .string ⟨#[]⟩, .int .i64 0, .int .i64 0, .float .f64 0, .string ⟨#[]⟩, .int .i64 0, .bool false, .int .i64 0, .slice none 0 0] 54] W) (hz : w.heap.size + 4 ≤ W.heap.size) : (rbC 3).wp Tryz.prog (bodyPost Tryz.prog Tryz.f27 (RBO (n + 1) w r)) a W := by
  obtain ⟨as0, as1, as2, as3⟩ := row4 (hM.row0 _ _ rfl)
  obtain ⟨ax0, ax1, ax2, ax3, ax4, ax5, ax6, ax7, ax8, ax9⟩ := row10 (hM.row 1 _ _ rfl)
  have HM := Lib.hid hM
  have HZ := Lib.hid hz
  clear hM hz
  obtain ⟨u, hu, hug⟩ := open138 hS.size
  have p2 := hS.s2; have p3 := hS.s3; have p4 := hS.s4; have p6 := hS.s6; have p7 := hS.s7
  have hdf := hS.df
  rw [hug _ (by omega)] at p2 p3 p4 p6 p7
  obtain ⟨tm, df⟩ := a
  dsimp only at hu hdf
  subst hu hdf
  clear hS hug
  rw [p2, p3, p4, p6, p7]
  clear p2 p3 p4 p6 p7
  have sf := store_float
  conv => arg 2; whnf
  refine wp_seq_k fun K0 hK0 => ?_
  have HK0 := Lib.hid hK0
  clear hK0
  go_wp2_with (first
    | (go_at_call 45; (with_reducible refine (h45 _).mono ?_); rintro e w5 ⟨rfl, hB⟩
       have HMw5 := Lib.hid (HM.out.keep hB)
       have HZw5 := Lib.hid (show w.heap.size + 4 ≤ w5.heap.size from Nat.le_trans HZ.out hB.size)
       obtain ⟨bs0, bs1, bs2, bs3⟩ := row4 (HMw5.out.row0 _ _ rfl)
       obtain ⟨bx0, bx1, bx2, bx3, bx4, bx5, bx6, bx7, bx8, bx9⟩ := row10 (HMw5.out.row 1 _ _ rfl)
       obtain ⟨bg0, bg1, bg2, bg3, bg4, bg5, bg6, bg7, bg8, bg9⟩ := free10 (HMw5.out.row 2 _ _ rfl)
       obtain ⟨be0, be1, be2, be3, be4, be5, be6, be7, be8, be9⟩ := row10 (HMw5.out.row 2 _ _ rfl)
       obtain ⟨bz0, bz1, bz2, bz3, bz4, bz5, bz6, bz7, bz8, bz9⟩ := row10 (HMw5.out.row 3 _ _ rfl)
       have blb := heap_lt (HMw5.out.row 2 _ _ rfl)
       clear hB)
    | fail)
  subst hr
  have HG := Lib.hid (HMw5.out.set10 (k := 2) (v0 := .int .i64 0) (v1 := .string ⟨#[]⟩) (v2 := .int .i64 0) (v3 := .int .i64 0) (v4 := .float .f64 0) (v5 := .string ⟨#[]⟩) (v6 := .int .i64 0) (v7 := .bool false) (v8 := .int .i64 0) (v9 := .slice none 0 0) rfl)
  refine bodyPost_ret (res_n (fn := Tryz.f27) rfl rfl rfl (HG.out.row 2 _ _ rfl)) rfl ⟨HG.out.below, by decide, rfl⟩
set_option maxRecDepth 100000 in
set_option maxHeartbeats 16000000 in
theorem rb3_a (n : Nat) (w : World) (k : Int) (op : ByteArray) (lk ln : Int) (lf : Nat) (ls tn nm : ByteArray) (ng : Bool) (xa : Option Addr) (q xc : Nat) (h45 : ∀ W, Calls Tryz.prog 45 #[.agg #[.int .i64 k, .string op, .int .i64 lk, .int .i64 ln, .float .f64 lf, .string ls, .string tn, .string nm, .bool ng, .slice xa q xc]] W (RetV (.bool false) W)) (m : Int) (r : Except Int Nd) (hr : r = .error 7) (a : Act) (W : World) (hS : S27 w m a) (hM : BX w [.cells #[.slice none 0 0, .slice none 0 0, .slice none 0 0, .bool false] 92, .cells #[.int .i64 k, .string op, .int .i64 lk, .int .i64 ln, .float .f64 lf, .string ls, .string tn, .string nm, .bool ng, .slice xa q xc] 41, .cells #[.int .i64 0, .string ⟨#[]⟩, .int .i64 0, .int .i64 0, .float .f64 0, .string ⟨#[]⟩, .int .i64 0, .bool false, .int .i64 0, .slice none 0 0] 54, .cells #[.int .i64 0, .string ⟨#[]⟩, .int .i64 0, .int .i64 0, .float .f64 0, .string ⟨#[]⟩, .int .i64 0, .bool false, .int .i64 0, .slice none 0 0] 54] W) (hz : w.heap.size + 4 ≤ W.heap.size) (hm : m < 0) : (rbC 3).wp Tryz.prog (bodyPost Tryz.prog Tryz.f27 (RBO (n + 1) w r)) a W := by
  have hm0 : (m < 0) = True := eq_true hm
  obtain ⟨as0, as1, as2, as3⟩ := row4 (hM.row0 _ _ rfl)
  obtain ⟨ax0, ax1, ax2, ax3, ax4, ax5, ax6, ax7, ax8, ax9⟩ := row10 (hM.row 1 _ _ rfl)
  have HM := Lib.hid hM
  have HZ := Lib.hid hz
  clear hM hz
  obtain ⟨u, hu, hug⟩ := open138 hS.size
  have p2 := hS.s2; have p3 := hS.s3; have p4 := hS.s4; have p6 := hS.s6; have p7 := hS.s7
  have hdf := hS.df
  rw [hug _ (by omega)] at p2 p3 p4 p6 p7
  obtain ⟨tm, df⟩ := a
  dsimp only at hu hdf
  subst hu hdf
  clear hS hug
  rw [p2, p3, p4, p6, p7]
  clear p2 p3 p4 p6 p7
  have sf := store_float
  conv => arg 2; whnf
  refine wp_seq_k fun K0 hK0 => ?_
  have HK0 := Lib.hid hK0
  clear hK0
  go_wp2_with (first
    | (go_at_call 45; (with_reducible refine (h45 _).mono ?_); rintro e w5 ⟨rfl, hB⟩
       have HMw5 := Lib.hid (HM.out.keep hB)
       have HZw5 := Lib.hid (show w.heap.size + 4 ≤ w5.heap.size from Nat.le_trans HZ.out hB.size)
       obtain ⟨bs0, bs1, bs2, bs3⟩ := row4 (HMw5.out.row0 _ _ rfl)
       obtain ⟨bx0, bx1, bx2, bx3, bx4, bx5, bx6, bx7, bx8, bx9⟩ := row10 (HMw5.out.row 1 _ _ rfl)
       obtain ⟨bg0, bg1, bg2, bg3, bg4, bg5, bg6, bg7, bg8, bg9⟩ := free10 (HMw5.out.row 2 _ _ rfl)
       obtain ⟨be0, be1, be2, be3, be4, be5, be6, be7, be8, be9⟩ := row10 (HMw5.out.row 2 _ _ rfl)
       obtain ⟨bz0, bz1, bz2, bz3, bz4, bz5, bz6, bz7, bz8, bz9⟩ := row10 (HMw5.out.row 3 _ _ rfl)
       have blb := heap_lt (HMw5.out.row 2 _ _ rfl)
       clear hB)
    | fail)
  subst hr
  have HG := Lib.hid (HMw5.out.set10 (k := 2) (v0 := .int .i64 0) (v1 := .string ⟨#[]⟩) (v2 := .int .i64 0) (v3 := .int .i64 0) (v4 := .float .f64 0) (v5 := .string ⟨#[]⟩) (v6 := .int .i64 0) (v7 := .bool false) (v8 := .int .i64 0) (v9 := .slice none 0 0) rfl)
  refine bodyPost_ret (res_n (fn := Tryz.f27) rfl rfl rfl (HG.out.row 2 _ _ rfl)) rfl ⟨HG.out.below, by decide, rfl⟩
set_option maxRecDepth 100000 in
set_option maxHeartbeats 16000000 in
theorem rb3_o (n : Nat) (w : World) (k : Int) (op : ByteArray) (lk ln : Int) (lf : Nat) (ls tn nm : ByteArray) (ng : Bool) (xa : Option Addr) (q xc : Nat) (h45 : ∀ W, Calls Tryz.prog 45 #[.agg #[.int .i64 k, .string op, .int .i64 lk, .int .i64 ln, .float .f64 lf, .string ls, .string tn, .string nm, .bool ng, .slice xa q xc]] W (RetV (.bool false) W)) (h46 : ∀ W, Calls Tryz.prog 46 #[.agg #[.int .i64 k, .string op, .int .i64 lk, .int .i64 ln, .float .f64 lf, .string ls, .string tn, .string nm, .bool ng, .slice xa q xc]] W (RetV (.bool false) W)) (m : Int) (r : Except Int Nd) (hr : r = .error 7) (a : Act) (W : World) (hS : S27 w m a) (hM : BX w [.cells #[.slice none 0 0, .slice none 0 0, .slice none 0 0, .bool false] 92, .cells #[.int .i64 k, .string op, .int .i64 lk, .int .i64 ln, .float .f64 lf, .string ls, .string tn, .string nm, .bool ng, .slice xa q xc] 41, .cells #[.int .i64 0, .string ⟨#[]⟩, .int .i64 0, .int .i64 0, .float .f64 0, .string ⟨#[]⟩, .int .i64 0, .bool false, .int .i64 0, .slice none 0 0] 54, .cells #[.int .i64 0, .string ⟨#[]⟩, .int .i64 0, .int .i64 0, .float .f64 0, .string ⟨#[]⟩, .int .i64 0, .bool false, .int .i64 0, .slice none 0 0] 54] W) (hz : w.heap.size + 4 ≤ W.heap.size) (hm : 0 ≤ m) : (rbC 3).wp Tryz.prog (bodyPost Tryz.prog Tryz.f27 (RBO (n + 1) w r)) a W := by
  have hm0 : (m < 0) = False := eq_false (by omega)
  obtain ⟨as0, as1, as2, as3⟩ := row4 (hM.row0 _ _ rfl)
  obtain ⟨ax0, ax1, ax2, ax3, ax4, ax5, ax6, ax7, ax8, ax9⟩ := row10 (hM.row 1 _ _ rfl)
  have HM := Lib.hid hM
  have HZ := Lib.hid hz
  clear hM hz
  obtain ⟨u, hu, hug⟩ := open138 hS.size
  have p2 := hS.s2; have p3 := hS.s3; have p4 := hS.s4; have p6 := hS.s6; have p7 := hS.s7
  have hdf := hS.df
  rw [hug _ (by omega)] at p2 p3 p4 p6 p7
  obtain ⟨tm, df⟩ := a
  dsimp only at hu hdf
  subst hu hdf
  clear hS hug
  rw [p2, p3, p4, p6, p7]
  clear p2 p3 p4 p6 p7
  have sf := store_float
  conv => arg 2; whnf
  refine wp_seq_k fun K0 hK0 => ?_
  have HK0 := Lib.hid hK0
  clear hK0
  go_wp2_with (first
    | (go_at_call 45; (with_reducible refine (h45 _).mono ?_); rintro e w5 ⟨rfl, hB⟩
       have HMw5 := Lib.hid (HM.out.keep hB)
       have HZw5 := Lib.hid (show w.heap.size + 4 ≤ w5.heap.size from Nat.le_trans HZ.out hB.size)
       obtain ⟨bs0, bs1, bs2, bs3⟩ := row4 (HMw5.out.row0 _ _ rfl)
       obtain ⟨bx0, bx1, bx2, bx3, bx4, bx5, bx6, bx7, bx8, bx9⟩ := row10 (HMw5.out.row 1 _ _ rfl)
       clear hB)
    | (go_at_call 46; (with_reducible refine (h46 _).mono ?_); rintro e w6 ⟨rfl, hB⟩
       have HMw6 := Lib.hid (HMw5.out.keep hB)
       have HZw6 := Lib.hid (show w.heap.size + 4 ≤ w6.heap.size from Nat.le_trans HZw5.out hB.size)
       obtain ⟨cs0, cs1, cs2, cs3⟩ := row4 (HMw6.out.row0 _ _ rfl)
       obtain ⟨cx0, cx1, cx2, cx3, cx4, cx5, cx6, cx7, cx8, cx9⟩ := row10 (HMw6.out.row 1 _ _ rfl)
       obtain ⟨cg0, cg1, cg2, cg3, cg4, cg5, cg6, cg7, cg8, cg9⟩ := free10 (HMw6.out.row 2 _ _ rfl)
       obtain ⟨ce0, ce1, ce2, ce3, ce4, ce5, ce6, ce7, ce8, ce9⟩ := row10 (HMw6.out.row 2 _ _ rfl)
       obtain ⟨cz0, cz1, cz2, cz3, cz4, cz5, cz6, cz7, cz8, cz9⟩ := row10 (HMw6.out.row 3 _ _ rfl)
       have clb := heap_lt (HMw6.out.row 2 _ _ rfl)
       clear hB)
    | fail)
  subst hr
  have HG := Lib.hid (HMw6.out.set10 (k := 2) (v0 := .int .i64 0) (v1 := .string ⟨#[]⟩) (v2 := .int .i64 0) (v3 := .int .i64 0) (v4 := .float .f64 0) (v5 := .string ⟨#[]⟩) (v6 := .int .i64 0) (v7 := .bool false) (v8 := .int .i64 0) (v9 := .slice none 0 0) rfl)
  refine bodyPost_ret (res_n (fn := Tryz.f27) rfl rfl rfl (HG.out.row 2 _ _ rfl)) rfl ⟨HG.out.below, by decide, rfl⟩
set_option maxRecDepth 100000 in
set_option maxHeartbeats 16000000 in
theorem rb3_c (n : Nat) (w : World) (op : ByteArray) (lk ln : Int) (lf : Nat) (ls tn nm : ByteArray) (ng : Bool) (xa : Option Addr) (q xc : Nat) (h45 : ∀ W, Calls Tryz.prog 45 #[.agg #[.int .i64 2, .string op, .int .i64 lk, .int .i64 ln, .float .f64 lf, .string ls, .string tn, .string nm, .bool ng, .slice xa q xc]] W (RetV (.bool false) W)) (h46 : ∀ W, Calls Tryz.prog 46 #[.agg #[.int .i64 2, .string op, .int .i64 lk, .int .i64 ln, .float .f64 lf, .string ls, .string tn, .string nm, .bool ng, .slice xa q xc]] W (RetV (.bool true) W)) (m : Int) (r : Except Int Nd) (hr : r = .error 131) (a : Act) (W : World) (hS : S27 w m a) (hM : BX w [.cells #[.slice none 0 0, .slice none 0 0, .slice none 0 0, .bool false] 92, .cells #[.int .i64 2, .string op, .int .i64 lk, .int .i64 ln, .float .f64 lf, .string ls, .string tn, .string nm, .bool ng, .slice xa q xc] 41, .cells #[.int .i64 0, .string ⟨#[]⟩, .int .i64 0, .int .i64 0, .float .f64 0, .string ⟨#[]⟩, .int .i64 0, .bool false, .int .i64 0, .slice none 0 0] 54, .cells #[.int .i64 0, .string ⟨#[]⟩, .int .i64 0, .int .i64 0, .float .f64 0, .string ⟨#[]⟩, .int .i64 0, .bool false, .int .i64 0, .slice none 0 0] 54] W) (hz : w.heap.size + 4 ≤ W.heap.size) (hm : 0 ≤ m) : (rbC 3).wp Tryz.prog (bodyPost Tryz.prog Tryz.f27 (RBO (n + 1) w r)) a W := by
  have hm0 : (m < 0) = False := eq_false (by omega)
  obtain ⟨as0, as1, as2, as3⟩ := row4 (hM.row0 _ _ rfl)
  obtain ⟨ax0, ax1, ax2, ax3, ax4, ax5, ax6, ax7, ax8, ax9⟩ := row10 (hM.row 1 _ _ rfl)
  have HM := Lib.hid hM
  have HZ := Lib.hid hz
  clear hM hz
  obtain ⟨u, hu, hug⟩ := open138 hS.size
  have p2 := hS.s2; have p3 := hS.s3; have p4 := hS.s4; have p6 := hS.s6; have p7 := hS.s7
  have hdf := hS.df
  rw [hug _ (by omega)] at p2 p3 p4 p6 p7
  obtain ⟨tm, df⟩ := a
  dsimp only at hu hdf
  subst hu hdf
  clear hS hug
  rw [p2, p3, p4, p6, p7]
  clear p2 p3 p4 p6 p7
  have sf := store_float
  conv => arg 2; whnf
  refine wp_seq_k fun K0 hK0 => ?_
  have HK0 := Lib.hid hK0
  clear hK0
  go_wp2_with (first
    | (go_at_call 45; (with_reducible refine (h45 _).mono ?_); rintro e w5 ⟨rfl, hB⟩
       have HMw5 := Lib.hid (HM.out.keep hB)
       have HZw5 := Lib.hid (show w.heap.size + 4 ≤ w5.heap.size from Nat.le_trans HZ.out hB.size)
       obtain ⟨bs0, bs1, bs2, bs3⟩ := row4 (HMw5.out.row0 _ _ rfl)
       obtain ⟨bx0, bx1, bx2, bx3, bx4, bx5, bx6, bx7, bx8, bx9⟩ := row10 (HMw5.out.row 1 _ _ rfl)
       clear hB)
    | (go_at_call 46; (with_reducible refine (h46 _).mono ?_); rintro e w6 ⟨rfl, hB⟩
       have HMw6 := Lib.hid (HMw5.out.keep hB)
       have HZw6 := Lib.hid (show w.heap.size + 4 ≤ w6.heap.size from Nat.le_trans HZw5.out hB.size)
       obtain ⟨cs0, cs1, cs2, cs3⟩ := row4 (HMw6.out.row0 _ _ rfl)
       obtain ⟨cx0, cx1, cx2, cx3, cx4, cx5, cx6, cx7, cx8, cx9⟩ := row10 (HMw6.out.row 1 _ _ rfl)
       clear hB)
    | (go_at_call 47; (with_reducible refine ((rcol_none 2 op lk ln lf ls tn nm ng xa q xc) _).mono ?_); rintro e w7 ⟨rfl, hB⟩
       have HMw7 := Lib.hid (HMw6.out.keep hB)
       have HZw7 := Lib.hid (show w.heap.size + 4 ≤ w7.heap.size from Nat.le_trans HZw6.out hB.size)
       obtain ⟨ds0, ds1, ds2, ds3⟩ := row4 (HMw7.out.row0 _ _ rfl)
       obtain ⟨dx0, dx1, dx2, dx3, dx4, dx5, dx6, dx7, dx8, dx9⟩ := row10 (HMw7.out.row 1 _ _ rfl)
       obtain ⟨dg0, dg1, dg2, dg3, dg4, dg5, dg6, dg7, dg8, dg9⟩ := free10 (HMw7.out.row 2 _ _ rfl)
       obtain ⟨de0, de1, de2, de3, de4, de5, de6, de7, de8, de9⟩ := row10 (HMw7.out.row 2 _ _ rfl)
       obtain ⟨dz0, dz1, dz2, dz3, dz4, dz5, dz6, dz7, dz8, dz9⟩ := row10 (HMw7.out.row 3 _ _ rfl)
       have dlb := heap_lt (HMw7.out.row 2 _ _ rfl)
       clear hB)
    | fail)
  subst hr
  have HG := Lib.hid (HMw7.out.set10 (k := 2) (v0 := .int .i64 0) (v1 := .string ⟨#[]⟩) (v2 := .int .i64 0) (v3 := .int .i64 0) (v4 := .float .f64 0) (v5 := .string ⟨#[]⟩) (v6 := .int .i64 0) (v7 := .bool false) (v8 := .int .i64 0) (v9 := .slice none 0 0) rfl)
  refine bodyPost_ret (res_n (fn := Tryz.f27) rfl rfl rfl (HG.out.row 2 _ _ rfl)) rfl ⟨HG.out.below, by decide, rfl⟩
set_option maxRecDepth 100000 in
set_option maxHeartbeats 16000000 in
theorem rb3_n (n : Nat) (w : World) (k : Int) (op : ByteArray) (lk ln : Int) (lf : Nat) (ls tn nm : ByteArray) (ng : Bool) (xa : Option Addr) (q xc : Nat) (h45 : ∀ W, Calls Tryz.prog 45 #[.agg #[.int .i64 k, .string op, .int .i64 lk, .int .i64 ln, .float .f64 lf, .string ls, .string tn, .string nm, .bool ng, .slice xa q xc]] W (RetV (.bool false) W)) (h46 : ∀ W, Calls Tryz.prog 46 #[.agg #[.int .i64 k, .string op, .int .i64 lk, .int .i64 ln, .float .f64 lf, .string ls, .string tn, .string nm, .bool ng, .slice xa q xc]] W (RetV (.bool true) W)) (h1 : k ≠ 1) (h2 : k ≠ 2) (m : Int) (r : Except Int Nd) (hr : r = .error 7) (a : Act) (W : World) (hS : S27 w m a) (hM : BX w [.cells #[.slice none 0 0, .slice none 0 0, .slice none 0 0, .bool false] 92, .cells #[.int .i64 k, .string op, .int .i64 lk, .int .i64 ln, .float .f64 lf, .string ls, .string tn, .string nm, .bool ng, .slice xa q xc] 41, .cells #[.int .i64 0, .string ⟨#[]⟩, .int .i64 0, .int .i64 0, .float .f64 0, .string ⟨#[]⟩, .int .i64 0, .bool false, .int .i64 0, .slice none 0 0] 54, .cells #[.int .i64 0, .string ⟨#[]⟩, .int .i64 0, .int .i64 0, .float .f64 0, .string ⟨#[]⟩, .int .i64 0, .bool false, .int .i64 0, .slice none 0 0] 54] W) (hz : w.heap.size + 4 ≤ W.heap.size) (hm : 0 ≤ m) (hq : (q : Int) ≠ m) : (rbC 3).wp Tryz.prog (bodyPost Tryz.prog Tryz.f27 (RBO (n + 1) w r)) a W := by
  have hm0 : (m < 0) = False := eq_false (by omega)
  have hq1 : ((q : Int) == m) = false := beq_eq_false_iff_ne.2 hq
  have hq2 : ((q : Int) = m) = False := eq_false hq
  have hk1 : (k == 1) = false := beq_eq_false_iff_ne.2 h1
  have hk2 : (k == 2) = false := beq_eq_false_iff_ne.2 h2
  obtain ⟨as0, as1, as2, as3⟩ := row4 (hM.row0 _ _ rfl)
  obtain ⟨ax0, ax1, ax2, ax3, ax4, ax5, ax6, ax7, ax8, ax9⟩ := row10 (hM.row 1 _ _ rfl)
  have HM := Lib.hid hM
  have HZ := Lib.hid hz
  clear hM hz
  obtain ⟨u, hu, hug⟩ := open138 hS.size
  have p2 := hS.s2; have p3 := hS.s3; have p4 := hS.s4; have p6 := hS.s6; have p7 := hS.s7
  have hdf := hS.df
  rw [hug _ (by omega)] at p2 p3 p4 p6 p7
  obtain ⟨tm, df⟩ := a
  dsimp only at hu hdf
  subst hu hdf
  clear hS hug
  rw [p2, p3, p4, p6, p7]
  clear p2 p3 p4 p6 p7
  have sf := store_float
  conv => arg 2; whnf
  refine wp_seq_k fun K0 hK0 => ?_
  have HK0 := Lib.hid hK0
  clear hK0
  go_wp2_with (first
    | (go_at_call 45; (with_reducible refine (h45 _).mono ?_); rintro e w5 ⟨rfl, hB⟩
       have HMw5 := Lib.hid (HM.out.keep hB)
       have HZw5 := Lib.hid (show w.heap.size + 4 ≤ w5.heap.size from Nat.le_trans HZ.out hB.size)
       obtain ⟨bs0, bs1, bs2, bs3⟩ := row4 (HMw5.out.row0 _ _ rfl)
       obtain ⟨bx0, bx1, bx2, bx3, bx4, bx5, bx6, bx7, bx8, bx9⟩ := row10 (HMw5.out.row 1 _ _ rfl)
       clear hB)
    | (go_at_call 46; (with_reducible refine (h46 _).mono ?_); rintro e w6 ⟨rfl, hB⟩
       have HMw6 := Lib.hid (HMw5.out.keep hB)
       have HZw6 := Lib.hid (show w.heap.size + 4 ≤ w6.heap.size from Nat.le_trans HZw5.out hB.size)
       obtain ⟨cs0, cs1, cs2, cs3⟩ := row4 (HMw6.out.row0 _ _ rfl)
       obtain ⟨cx0, cx1, cx2, cx3, cx4, cx5, cx6, cx7, cx8, cx9⟩ := row10 (HMw6.out.row 1 _ _ rfl)
       obtain ⟨cg0, cg1, cg2, cg3, cg4, cg5, cg6, cg7, cg8, cg9⟩ := free10 (HMw6.out.row 2 _ _ rfl)
       obtain ⟨ce0, ce1, ce2, ce3, ce4, ce5, ce6, ce7, ce8, ce9⟩ := row10 (HMw6.out.row 2 _ _ rfl)
       obtain ⟨cz0, cz1, cz2, cz3, cz4, cz5, cz6, cz7, cz8, cz9⟩ := row10 (HMw6.out.row 3 _ _ rfl)
       have clb := heap_lt (HMw6.out.row 2 _ _ rfl)
       clear hB)
    | fail)
  subst hr
  have HG := Lib.hid (HMw6.out.set10 (k := 2) (v0 := .int .i64 0) (v1 := .string ⟨#[]⟩) (v2 := .int .i64 0) (v3 := .int .i64 0) (v4 := .float .f64 0) (v5 := .string ⟨#[]⟩) (v6 := .int .i64 0) (v7 := .bool false) (v8 := .int .i64 0) (v9 := .slice none 0 0) rfl)
  refine bodyPost_ret (res_n (fn := Tryz.f27) rfl rfl rfl (HG.out.row 2 _ _ rfl)) rfl ⟨HG.out.below, by decide, rfl⟩
set_option maxRecDepth 100000 in
set_option maxHeartbeats 16000000 in
theorem rb3_y (n : Nat) (w : World) (k : Int) (op : ByteArray) (lk ln : Int) (lf : Nat) (ls tn nm : ByteArray) (ng : Bool) (xa : Option Addr) (q xc : Nat) (h45 : ∀ W, Calls Tryz.prog 45 #[.agg #[.int .i64 k, .string op, .int .i64 lk, .int .i64 ln, .float .f64 lf, .string ls, .string tn, .string nm, .bool ng, .slice xa q xc]] W (RetV (.bool false) W)) (h46 : ∀ W, Calls Tryz.prog 46 #[.agg #[.int .i64 k, .string op, .int .i64 lk, .int .i64 ln, .float .f64 lf, .string ls, .string tn, .string nm, .bool ng, .slice xa q xc]] W (RetV (.bool true) W)) (h1 : k ≠ 1) (h2 : k ≠ 2) (m : Int) (r : Except Int Nd) (HSEG : ∀ a W, S27 w m a → BX w [.cells #[.slice none 0 0, .slice none 0 0, .slice none 0 0, .bool false] 92, .cells #[.int .i64 k, .string op, .int .i64 lk, .int .i64 ln, .float .f64 lf, .string ls, .string tn, .string nm, .bool ng, .slice xa q xc] 41, .cells #[.int .i64 0, .string ⟨#[]⟩, .int .i64 0, .int .i64 0, .float .f64 0, .string ⟨#[]⟩, .int .i64 0, .bool false, .int .i64 0, .slice none 0 0] 54, .cells #[.int .i64 0, .string ⟨#[]⟩, .int .i64 0, .int .i64 0, .float .f64 0, .string ⟨#[]⟩, .int .i64 0, .bool false, .int .i64 0, .slice none 0 0] 54] W → w.heap.size + 4 ≤ W.heap.size → (rbC 4).wp Tryz.prog (bodyPost Tryz.prog Tryz.f27 (RBO (n + 1) w r)) a W) (a : Act) (W : World) (hS : S27 w m a) (hM : BX w [.cells #[.slice none 0 0, .slice none 0 0, .slice none 0 0, .bool false] 92, .cells #[.int .i64 k, .string op, .int .i64 lk, .int .i64 ln, .float .f64 lf, .string ls, .string tn, .string nm, .bool ng, .slice xa q xc] 41, .cells #[.int .i64 0, .string ⟨#[]⟩, .int .i64 0, .int .i64 0, .float .f64 0, .string ⟨#[]⟩, .int .i64 0, .bool false, .int .i64 0, .slice none 0 0] 54, .cells #[.int .i64 0, .string ⟨#[]⟩, .int .i64 0, .int .i64 0, .float .f64 0, .string ⟨#[]⟩, .int .i64 0, .bool false, .int .i64 0, .slice none 0 0] 54] W) (hz : w.heap.size + 4 ≤ W.heap.size) (hm : m = (q : Int)) : (rbC 3).wp Tryz.prog (bodyPost Tryz.prog Tryz.f27 (RBO (n + 1) w r)) a W := by
  subst hm
  have hm0 : ((q : Int) < 0) = False := eq_false (by omega)
  have hq1 : ((q : Int) == (q : Int)) = true := beq_self_eq_true _
  have hk1 : (k == 1) = false := beq_eq_false_iff_ne.2 h1
  have hk2 : (k == 2) = false := beq_eq_false_iff_ne.2 h2
  obtain ⟨as0, as1, as2, as3⟩ := row4 (hM.row0 _ _ rfl)
  obtain ⟨ax0, ax1, ax2, ax3, ax4, ax5, ax6, ax7, ax8, ax9⟩ := row10 (hM.row 1 _ _ rfl)
  have HM := Lib.hid hM
  have HZ := Lib.hid hz
  clear hM hz
  obtain ⟨u, hu, hug⟩ := open138 hS.size
  have p2 := hS.s2; have p3 := hS.s3; have p4 := hS.s4; have p6 := hS.s6; have p7 := hS.s7
  have hdf := hS.df
  rw [hug _ (by omega)] at p2 p3 p4 p6 p7
  obtain ⟨tm, df⟩ := a
  dsimp only at hu hdf
  subst hu hdf
  clear hS hug
  rw [p2, p3, p4, p6, p7]
  clear p2 p3 p4 p6 p7
  have sf := store_float
  conv => arg 2; whnf
  refine wp_seq_k fun K0 hK0 => ?_
  have HK0 := Lib.hid hK0
  clear hK0
  go_wp2_with (first
    | (go_at_call 45; (with_reducible refine (h45 _).mono ?_); rintro e w5 ⟨rfl, hB⟩
       have HMw5 := Lib.hid (HM.out.keep hB)
       have HZw5 := Lib.hid (show w.heap.size + 4 ≤ w5.heap.size from Nat.le_trans HZ.out hB.size)
       obtain ⟨bs0, bs1, bs2, bs3⟩ := row4 (HMw5.out.row0 _ _ rfl)
       obtain ⟨bx0, bx1, bx2, bx3, bx4, bx5, bx6, bx7, bx8, bx9⟩ := row10 (HMw5.out.row 1 _ _ rfl)
       clear hB)
    | (go_at_call 46; (with_reducible refine (h46 _).mono ?_); rintro e w6 ⟨rfl, hB⟩
       have HMw6 := Lib.hid (HMw5.out.keep hB)
       have HZw6 := Lib.hid (show w.heap.size + 4 ≤ w6.heap.size from Nat.le_trans HZw5.out hB.size)
       obtain ⟨cs0, cs1, cs2, cs3⟩ := row4 (HMw6.out.row0 _ _ rfl)
       obtain ⟨cx0, cx1, cx2, cx3, cx4, cx5, cx6, cx7, cx8, cx9⟩ := row10 (HMw6.out.row 1 _ _ rfl)
       obtain ⟨cg0, cg1, cg2, cg3, cg4, cg5, cg6, cg7, cg8, cg9⟩ := free10 (HMw6.out.row 2 _ _ rfl)
       obtain ⟨ce0, ce1, ce2, ce3, ce4, ce5, ce6, ce7, ce8, ce9⟩ := row10 (HMw6.out.row 2 _ _ rfl)
       obtain ⟨cz0, cz1, cz2, cz3, cz4, cz5, cz6, cz7, cz8, cz9⟩ := row10 (HMw6.out.row 3 _ _ rfl)
       have clb := heap_lt (HMw6.out.row 2 _ _ rfl)
       clear hB)
    | fail)
  refine HK0.out _ _ (HSEG _ _ ⟨?_, ?_, ?_, ?_, ?_, ?_, ?_⟩ HMw6.out HZw6.out)
  all_goals rfl
set_option maxRecDepth 100000 in
set_option maxHeartbeats 16000000 in
theorem rb3_l (n : Nat) (w : World) (op : ByteArray) (lk ln : Int) (lf : Nat) (ls tn nm : ByteArray) (ng : Bool) (xa : Option Addr) (q xc : Nat) (h45 : ∀ W, Calls Tryz.prog 45 #[.agg #[.int .i64 1, .string op, .int .i64 lk, .int .i64 ln, .float .f64 lf, .string ls, .string tn, .string nm, .bool ng, .slice xa q xc]] W (RetV (.bool false) W)) (h46 : ∀ W, Calls Tryz.prog 46 #[.agg #[.int .i64 1, .string op, .int .i64 lk, .int .i64 ln, .float .f64 lf, .string ls, .string tn, .string nm, .bool ng, .slice xa q xc]] W (RetV (.bool true) W)) (m : Int) (hm : 0 ≤ m) (r : Except Int Nd) (hr : r = .ok (.mk 1 ⟨#[]⟩ ⟨lk, ln, lf, ls⟩ 0 false (clK lk) [])) (a : Act) (W : World) (hS : S27 w m a) (hM : BX w [.cells #[.slice none 0 0, .slice none 0 0, .slice none 0 0, .bool false] 92, .cells #[.int .i64 1, .string op, .int .i64 lk, .int .i64 ln, .float .f64 lf, .string ls, .string tn, .string nm, .bool ng, .slice xa q xc] 41, .cells #[.int .i64 0, .string ⟨#[]⟩, .int .i64 0, .int .i64 0, .float .f64 0, .string ⟨#[]⟩, .int .i64 0, .bool false, .int .i64 0, .slice none 0 0] 54, .cells #[.int .i64 0, .string ⟨#[]⟩, .int .i64 0, .int .i64 0, .float .f64 0, .string ⟨#[]⟩, .int .i64 0, .bool false, .int .i64 0, .slice none 0 0] 54] W) (hz : w.heap.size + 4 ≤ W.heap.size) : (rbC 3).wp Tryz.prog (bodyPost Tryz.prog Tryz.f27 (RBO (n + 1) w r)) a W := by
  have hm0 : (m < 0) = False := eq_false (by omega)
  obtain ⟨as0, as1, as2, as3⟩ := row4 (hM.row0 _ _ rfl)
  obtain ⟨ax0, ax1, ax2, ax3, ax4, ax5, ax6, ax7, ax8, ax9⟩ := row10 (hM.row 1 _ _ rfl)
  have HM := Lib.hid hM
  have HZ := Lib.hid hz
  clear hM hz
  obtain ⟨u, hu, hug⟩ := open138 hS.size
  have p2 := hS.s2; have p3 := hS.s3; have p4 := hS.s4; have p6 := hS.s6; have p7 := hS.s7
  have hdf := hS.df
  rw [hug _ (by omega)] at p2 p3 p4 p6 p7
  obtain ⟨tm, df⟩ := a
  dsimp only at hu hdf
  subst hu hdf
  clear hS hug
  rw [p2, p3, p4, p6, p7]
  clear p2 p3 p4 p6 p7
  have sf := store_float
  conv => arg 2; whnf
  refine wp_seq_k fun K0 hK0 => ?_
  have HK0 := Lib.hid hK0
  clear hK0
  go_upto_region 11 with (first
    | (go_at_call 45; (with_reducible refine (h45 _).mono ?_); rintro e w5 ⟨rfl, hB⟩
       have HMw5 := Lib.hid (HM.out.keep hB)
       have HZw5 := Lib.hid (show w.heap.size + 4 ≤ w5.heap.size from Nat.le_trans HZ.out hB.size)
       obtain ⟨bs0, bs1, bs2, bs3⟩ := row4 (HMw5.out.row0 _ _ rfl)
       obtain ⟨bx0, bx1, bx2, bx3, bx4, bx5, bx6, bx7, bx8, bx9⟩ := row10 (HMw5.out.row 1 _ _ rfl)
       clear hB)
    | (go_at_call 46; (with_reducible refine (h46 _).mono ?_); rintro e w6 ⟨rfl, hB⟩
       have HMw6 := Lib.hid (HMw5.out.keep hB)
       have HZw6 := Lib.hid (show w.heap.size + 4 ≤ w6.heap.size from Nat.le_trans HZw5.out hB.size)
       obtain ⟨cs0, cs1, cs2, cs3⟩ := row4 (HMw6.out.row0 _ _ rfl)
       obtain ⟨cx0, cx1, cx2, cx3, cx4, cx5, cx6, cx7, cx8, cx9⟩ := row10 (HMw6.out.row 1 _ _ rfl)
       clear hB)
    | (go_at_call 48; (with_reducible refine ((rclean_any lk ln lf ls) _).mono ?_); rintro e w7 ⟨rfl, hB⟩
       have HMw7 := Lib.hid (HMw6.out.keep hB)
       have HZw7 := Lib.hid (show w.heap.size + 4 ≤ w7.heap.size from Nat.le_trans HZw6.out hB.size)
       obtain ⟨ds0, ds1, ds2, ds3⟩ := row4 (HMw7.out.row0 _ _ rfl)
       obtain ⟨dx0, dx1, dx2, dx3, dx4, dx5, dx6, dx7, dx8, dx9⟩ := row10 (HMw7.out.row 1 _ _ rfl)
       clear hB)
    | fail)
  have HM8 := Lib.hid (HMw7.out.alloc (.cells #[.int .i64 (clK lk), .int .i64 (clN lk ln), .float .f64 (rclF lk lf), .string (clS lk ls)] 39))
  have HV := Lib.hid (heap_alloc_new w7 (.cells #[.int .i64 (clK lk), .int .i64 (clN lk ln), .float .f64 (rclF lk lf), .string (clS lk ls)] 39))
  obtain ⟨vb, hvb⟩ : ∃ b, b = w7.heap.size := ⟨_, rfl⟩
  rw [← hvb] at HV ⊢
  clear hvb bs0 cs0 ds0 bs1 cs1 ds1 bs2 cs2 ds2 bs3 cs3 ds3 bx0 cx0 dx0 bx1 cx1 dx1 bx2 cx2 dx2 bx3 cx3 dx3 bx4 cx4 dx4 bx5 cx5 dx5 bx6 cx6 dx6 bx7 cx7 dx7 bx8 cx8 dx8 bx9 cx9 dx9
  generalize w7.alloc (.cells #[.int .i64 (clK lk), .int .i64 (clN lk ln), .float .f64 (rclF lk lf), .string (clS lk ls)] 39) = w8 at HM8 HV ⊢
  obtain ⟨ys0, ys1, ys2, ys3⟩ := row4 (HM8.out.row0 _ _ rfl)
  obtain ⟨yx0, yx1, yx2, yx3, yx4, yx5, yx6, yx7, yx8, yx9⟩ := row10 (HM8.out.row 1 _ _ rfl)
  obtain ⟨yg0, yg1, yg2, yg3, yg4, yg5, yg6, yg7, yg8, yg9⟩ := free10 (HM8.out.row 2 _ _ rfl)
  obtain ⟨ye0, ye1, ye2, ye3, ye4, ye5, ye6, ye7, ye8, ye9⟩ := row10 (HM8.out.row 2 _ _ rfl)
  obtain ⟨yz0, yz1, yz2, yz3, yz4, yz5, yz6, yz7, yz8, yz9⟩ := row10 (HM8.out.row 3 _ _ rfl)
  have ylb := heap_lt (HM8.out.row 2 _ _ rfl)
  obtain ⟨v0, v1, v2, v3⟩ := row4 HV.out
  go_wp2_with fail
  subst hr
  have HG := Lib.hid (HM8.out.set10 (k := 2) (v0 := .int .i64 1) (v1 := .string ⟨#[]⟩) (v2 := .int .i64 (clK lk)) (v3 := .int .i64 (clN lk ln)) (v4 := .float .f64 (rclF lk lf)) (v5 := .string (clS lk ls)) (v6 := .int .i64 0) (v7 := .bool false) (v8 := .int .i64 (clK lk)) (v9 := .slice none 0 0) rfl)
  refine bodyPost_ret (res_n (fn := Tryz.f27) rfl rfl rfl (HG.out.row 2 _ _ rfl)) rfl ?_
  exact ⟨HG.out.below, none, 0, 0, rfl, none, 0, [], rfl, ⟨Nat.zero_le _, Or.inl rfl⟩, fun h => absurd rfl h, rfl, fun i x q h => by cases h⟩
set_option maxRecDepth 100000 in
set_option maxHeartbeats 16000000 in
theorem rb0 (n : Nat) (w : World) (k : Int) (op : ByteArray) (lk ln : Int) (lf : Nat) (ls tn nm : ByteArray) (ng : Bool) (xa : Option Addr) (q xc : Nat) (m : Int) (h44 : ∀ W, Calls Tryz.prog 44 #[.agg #[.int .i64 k, .string op, .int .i64 lk, .int .i64 ln, .float .f64 lf, .string ls, .string tn, .string nm, .bool ng, .slice xa q xc]] W (RetV (.int .i64 m) W)) (r : Except Int Nd) (HSEG : ∀ a W, S27 w m a → BX w [.cells #[.slice none 0 0, .slice none 0 0, .slice none 0 0, .bool false] 92, .cells #[.int .i64 k, .string op, .int .i64 lk, .int .i64 ln, .float .f64 lf, .string ls, .string tn, .string nm, .bool ng, .slice xa q xc] 41, .cells #[.int .i64 0, .string ⟨#[]⟩, .int .i64 0, .int .i64 0, .float .f64 0, .string ⟨#[]⟩, .int .i64 0, .bool false, .int .i64 0, .slice none 0 0] 54, .cells #[.int .i64 0, .string ⟨#[]⟩, .int .i64 0, .int .i64 0, .float .f64 0, .string ⟨#[]⟩, .int .i64 0, .bool false, .int .i64 0, .slice none 0 0] 54] W → w.heap.size + 4 ≤ W.heap.size → (rbC 3).wp Tryz.prog (bodyPost Tryz.prog Tryz.f27 (RBO (n + 1) w r)) a W) : Calls Tryz.prog 27 #[sc0V, .agg #[.int .i64 k, .string op, .int .i64 lk, .int .i64 ln, .float .f64 lf, .string ls, .string tn, .string nm, .bool ng, .slice xa q xc]] w (RBO (n + 1) w r) := by
  have HS := Lib.hid HSEG
  have HM := Lib.hid (BX.four w (.cells #[.slice none 0 0, .slice none 0 0, .slice none 0 0, .bool false] 92) (.cells #[.int .i64 k, .string op, .int .i64 lk, .int .i64 ln, .float .f64 lf, .string ls, .string tn, .string nm, .bool ng, .slice xa q xc] 41) (.cells #[.int .i64 0, .string ⟨#[]⟩, .int .i64 0, .int .i64 0, .float .f64 0, .string ⟨#[]⟩, .int .i64 0, .bool false, .int .i64 0, .slice none 0 0] 54) (.cells #[.int .i64 0, .string ⟨#[]⟩, .int .i64 0, .int .i64 0, .float .f64 0, .string ⟨#[]⟩, .int .i64 0, .bool false, .int .i64 0, .slice none 0 0] 54))
  have HZ := Lib.hid (show w.heap.size + 4 ≤ ((((w.alloc (.cells #[.slice none 0 0, .slice none 0 0, .slice none 0 0, .bool false] 92)).alloc (.cells #[.int .i64 k, .string op, .int .i64 lk, .int .i64 ln, .float .f64 lf, .string ls, .string tn, .string nm, .bool ng, .slice xa q xc] 41)).alloc (.cells #[.int .i64 0, .string ⟨#[]⟩, .int .i64 0, .int .i64 0, .float .f64 0, .string ⟨#[]⟩, .int .i64 0, .bool false, .int .i64 0, .slice none 0 0] 54)).alloc (.cells #[.int .i64 0, .string ⟨#[]⟩, .int .i64 0, .int .i64 0, .float .f64 0, .string ⟨#[]⟩, .int .i64 0, .bool false, .int .i64 0, .slice none 0 0] 54)).heap.size from by simp only [World.size_alloc]; omega)
  clear HSEG
  have sf := store_float
  go_enter Tryz.func27, Tryz.ntmps27
  refine wp_seq_k fun K0 hK0 => ?_
  have HK0 := Lib.hid hK0
  clear hK0
  go_wp2_with fail
  refine HK0.out _ _ ?_
  refine wp_seq_k fun K1 hK1 => ?_
  have HK1 := Lib.hid hK1
  clear hK1
  go_wp2_with fail
  refine HK1.out _ _ ?_
  obtain ⟨as0, as1, as2, as3⟩ := row4 (HM.out.row0 _ _ rfl)
  obtain ⟨ax0, ax1, ax2, ax3, ax4, ax5, ax6, ax7, ax8, ax9⟩ := row10 (HM.out.row 1 _ _ rfl)
  have z1 : (w.heap.size + 1 + 1) = w.heap.size + 2 := by omega
  refine wp_seq_k fun K2 hK2 => ?_
  have HK2 := Lib.hid (show ∀ a w', (rbC 3).wp Tryz.prog (bodyPost Tryz.prog Tryz.f27 (RBO (n + 1) w r)) a w' → K2 a w' from hK2)
  clear hK2
  go_wp2_with (first
    | (go_at_call 44; (with_reducible refine (h44 _).mono ?_); rintro e w5 ⟨rfl, hB⟩
       have HMw5 := Lib.hid (HM.out.keep hB)
       have HZw5 := Lib.hid (show w.heap.size + 4 ≤ w5.heap.size from Nat.le_trans HZ.out hB.size)
       obtain ⟨bs0, bs1, bs2, bs3⟩ := row4 (HMw5.out.row0 _ _ rfl)
       obtain ⟨bx0, bx1, bx2, bx3, bx4, bx5, bx6, bx7, bx8, bx9⟩ := row10 (HMw5.out.row 1 _ _ rfl)
       clear hB)
    | fail)
  refine HK2.out _ _ (HS.out _ _ ⟨?_, ?_, ?_, ?_, ?_, ?_, ?_⟩ HMw5.out HZw5.out)
  all_goals rfl
theorem typeR_bd {k t : Int} {l : List Int} (hl : ∀ x ∈ l, 0 ≤ x ∧ x ≤ 4) (h : typeR k l = .ok t) : 0 ≤ t ∧ t ≤ 4 := by
  unfold typeR at h
  split at h
  · split at h
    · cases h; decide
    · cases h
  · have hx := hl _ (List.mem_singleton.2 rfl)
    (repeat' split at h) <;> first | (cases h; done) | (cases h; exact hx) | (cases h; decide)
  · rename_i a b
    have hx := hl a (by simp)
    have hy := hl b (by simp)
    (repeat' split at h) <;> first | (cases h; done) | (cases h; decide) | (cases h; omega)
  · cases h
theorem bindR_ty : ∀ {n : Nat} {fo : Bool} {x : Ex} {p : Nd}, bindR n [] fo x = .ok p → 0 ≤ p.ty ∧ p.ty ≤ 4
  | 0, _, _, _, h => by unfold bindR at h; cases h
  | n + 1, fo, x, p, h => by
    obtain ⟨_, h⟩ := bindR_inv h
    rcases h with ⟨_, h⟩ | ⟨_, rfl⟩ | ⟨m, ps, t, h2, h1, ha, hl, hb, ht, rfl⟩
    · unfold colR at h; cases h
    · show 0 ≤ clK x.lit.k ∧ clK x.lit.k ≤ 4
      unfold clK
      split <;> omega
    · refine typeR_bd (fun z hz => ?_) ht
      obtain ⟨q, hq, rfl⟩ := List.mem_map.1 hz
      obtain ⟨y, _, hy⟩ := bind_mem hb q hq
      exact bindR_ty hy
theorem arity_cases {k : Int} {m : Nat} (h : arity k = some m) (hf : foldK k = false) (h2 : k ≠ 2) (h1 : k ≠ 1) : (m = 1 ∧ (k = 3 ∨ k = 4 ∨ k = 9)) ∨ (m = 2 ∧ (k = 5 ∨ k = 6 ∨ k = 7 ∨ k = 8)) := by
  obtain ⟨f0, f1, f2, f3⟩ := foldK_no hf
  unfold arity at h
  (repeat' split at h) <;> cases h <;> omega
theorem rty_any {k : Int} {m : Nat} (ha : arity k = some m) (hf : foldK k = false) (h2 : k ≠ 2) (h1 : k ≠ 1) {ts : List Int} (hl : ts.length = m) (hb : ∀ x ∈ ts, 0 ≤ x ∧ x ≤ 4) (W : World) (B : Option Addr) (c : Nat) (hI : IntsAt W B ts) : Calls Tryz.prog 49 #[.int .i64 k, .slice B ts.length c] W (RetV (tyO (typeR k ts)) W) := by
  rcases arity_cases ha hf h2 h1 with ⟨rfl, hk⟩ | ⟨rfl, hk⟩
  · match ts, hl with
    | [a], _ => exact rty_one k a hk B c W hI
  · match ts, hl with
    | [a, b], _ => exact rty_two k a b hk (hb a (by simp)) (hb b (by simp)) B c W hI
theorem rbind_any : ∀ (n : Nat) (x : Ex) (w : World), ExAt w n x → SmallX n x → Calls Tryz.prog 27 #[sc0V, exV x] w (RBO n w (bindR n [] false x))
  | 0, _, _, h, _ => h.elim
  | n + 1, x, w, h, hm => by
    have HI : ∀ y ∈ x.args, ∀ W, Below w.heap.size w W → Calls Tryz.prog 27 #[sc0V, exV y] W (RBO n W (bindR n [] false y)) := fun y hy W hB => rbind_any n y W ((h.2 y hy).keep hB) (hm.2 y hy)
    have hX := h.1
    have hl := hm.1
    obtain ⟨r, hr⟩ : ∃ r, r = bindR (n + 1) [] false x := ⟨_, rfl⟩
    rw [← hr]
    have h44 := rparts_any x
    have h45 := rfold_any x
    have h46 := rop_any x
    refine rb0 n w x.kind x.op x.lit.k x.lit.n x.lit.f x.lit.s x.table x.name x.neg x.A x.args.length x.c (ariI x.kind) h44 r fun a W hS hM hz => ?_
    unfold bindR at hr
    cases hf : foldK x.kind with
    | true =>
      rw [hf] at h45
      rw [if_pos ⟨hf, rfl⟩] at hr
      exact rb3_f n w x.kind x.op x.lit.k x.lit.n x.lit.f x.lit.s x.table x.name x.neg x.A x.args.length x.c h45 (ariI x.kind) r hr a W hS hM hz
    | false =>
      rw [hf] at h45
      rw [if_neg (by rw [hf]; exact fun h => Bool.noConfusion h.1)] at hr
      unfold ariI at hS
      cases ha : arity x.kind with
      | none =>
        rw [ha] at hr hS
        exact rb3_a n w x.kind x.op x.lit.k x.lit.n x.lit.f x.lit.s x.table x.name x.neg x.A x.args.length x.c h45 _ r hr a W hS hM hz (by decide)
      | some m =>
        rw [ha] at hr hS
        dsimp only at hr hS
        cases ho : opOk x.kind x.op with
        | false =>
          rw [ho] at h46
          rw [if_pos ho] at hr
          exact rb3_o n w x.kind x.op x.lit.k x.lit.n x.lit.f x.lit.s x.table x.name x.neg x.A x.args.length x.c h45 h46 _ r hr a W hS hM hz (by omega)
        | true =>
          rw [ho] at h46
          rw [if_neg (by rw [ho]; decide)] at hr
          by_cases h2 : x.kind = 2
          · rw [if_pos h2] at hr
            rw [h2] at hM
            have e : exV x = .agg #[.int .i64 2, .string x.op, .int .i64 x.lit.k, .int .i64 x.lit.n, .float .f64 x.lit.f, .string x.lit.s, .string x.table, .string x.name, .bool x.neg, .slice x.A x.args.length x.c] := by unfold exV; rw [h2]
            rw [e] at h45 h46
            exact rb3_c n w x.op x.lit.k x.lit.n x.lit.f x.lit.s x.table x.name x.neg x.A x.args.length x.c h45 h46 _ r hr a W hS hM hz (by omega)
          · rw [if_neg h2] at hr
            by_cases h1 : x.kind = 1
            · rw [if_pos h1] at hr
              rw [h1] at hM
              have e : exV x = .agg #[.int .i64 1, .string x.op, .int .i64 x.lit.k, .int .i64 x.lit.n, .float .f64 x.lit.f, .string x.lit.s, .string x.table, .string x.name, .bool x.neg, .slice x.A x.args.length x.c] := by unfold exV; rw [h1]
              rw [e] at h45 h46
              exact rb3_l n w x.op x.lit.k x.lit.n x.lit.f x.lit.s x.table x.name x.neg x.A x.args.length x.c h45 h46 _ (by omega) r hr a W hS hM hz
            · rw [if_neg h1] at hr
              by_cases hq : x.args.length = m
              · rw [if_neg (fun h => h hq)] at hr
                refine rb3_y n w x.kind x.op x.lit.k x.lit.n x.lit.f x.lit.s x.table x.name x.neg x.A x.args.length x.c h45 h46 h1 h2 _ r (fun a W hS hM hz => ?_) a W hS hM hz (by rw [hq])
                rw [← hq] at hS
                refine rb4 n w x.kind x.op x.lit.k x.lit.n x.lit.f x.lit.s x.table x.name x.neg x.A x.args.length x.c r (fun ob a W hS h10 hL => ?_) a W hS hM hz
                refine rb7 n w x.kind x.op x.lit.k x.lit.n x.lit.f x.lit.s x.table x.name x.neg x.A x.args.length x.c x rfl hl rfl (bindR n [] false) hX HI r ob (fun v1 vs ps B2 c2 a W hb hS h10 hL => ?_) (fun er he => ?_) a W hS h10 hL
                · rw [Bool.false_and, hb] at hr
                  dsimp only at hr
                  have hty := rty_any ha hf h2 h1 (ts := ps.map Nd.ty) (by rw [List.length_map, bindArgs_len hb, hq]) (fun z hz => by
                    obtain ⟨q, hq', rfl⟩ := List.mem_map.1 hz
                    obtain ⟨y, _, hy⟩ := bind_mem hb q hq'
                    exact bindR_ty hy)
                  cases ht : typeR x.kind (ps.map Nd.ty) with
                  | error er =>
                    rw [ht] at hr
                    exact rb8_e n w x.kind x.op x.lit.k x.lit.n x.lit.f x.lit.s x.table x.name x.neg x.A x.args.length x.c _ ob er (by rw [typeR_err ht]; decide) ps v1 vs B2 c2 _ ht hty r hr a W hS h10 hL
                  | ok t =>
                    rw [ht] at hr
                    dsimp only at hr
                    by_cases h7 : x.kind = 7
                    · rw [h7] at hL ht hty hr
                      exact rb8_7 n w x.op x.lit.k x.lit.n x.lit.f x.lit.s x.table x.name x.neg x.A x.args.length x.c _ ob t ps v1 vs B2 c2 _ ht hty r hr a W hS h10 hL
                    · by_cases h8 : x.kind = 8
                      · rw [h8] at hL ht hty hr
                        exact rb8_8 n w x.op x.lit.k x.lit.n x.lit.f x.lit.s x.table x.name x.neg x.A x.args.length x.c _ ob t ps v1 vs B2 c2 _ ht hty r hr a W hS h10 hL
                      · rw [if_neg (fun h => h.elim h7 h8)] at hr
                        by_cases h9 : x.kind = 9
                        · rw [h9] at hL ht hty hr
                          exact rb8_9 n w x.op x.lit.k x.lit.n x.lit.f x.lit.s x.table x.name x.neg x.A x.args.length x.c _ ob t ps v1 vs B2 c2 _ ht hty r hr a W hS h10 hL
                        · rw [if_neg h9] at hr
                          exact rb8_o n w x.kind x.op x.lit.k x.lit.n x.lit.f x.lit.s x.table x.name x.neg x.A x.args.length x.c h7 h8 h9 _ ob t ps v1 vs B2 c2 _ ht hty r hr a W hS h10 hL
                · rw [Bool.false_and, he] at hr
                  exact hr
              · rw [if_pos hq] at hr
                exact rb3_n n w x.kind x.op x.lit.k x.lit.n x.lit.f x.lit.s x.table x.name x.neg x.A x.args.length x.c h45 h46 h1 h2 _ r hr a W hS hM hz (by omega) (by omega)
end Go.Proofs.YthdmfaepjemopaaGreatDoor
namespace Go.Proofs.YthdmfaepjemopaaGreatDoor
open Go.RowKit

noncomputable def rrC (k : Nat) : Code := dropC k (Tryz.f16.body.getD .skip)
set_option maxRecDepth 100000 in
theorem open80 {a : Act} (h : a.tmps.size = 80) : ∃ u : Nat → Value, a.tmps = #[u 0, u 1, u 2, u 3, u 4, u 5, u 6, u 7, u 8, u 9, u 10, u 11, u 12, u 13, u 14, u 15, u 16, u 17, u 18, u 19, u 20, u 21, u 22, u 23, u 24, u 25, u 26, u 27, u 28, u 29, u 30, u 31, u 32, u 33, u 34, u 35, u 36, u 37, u 38, u 39, u 40, u 41, u 42, u 43, u 44, u 45, u 46, u 47, u 48, u 49, u 50, u 51, u 52, u 53, u 54, u 55, u 56, u 57, u 58, u 59, u 60, u 61, u 62, u 63, u 64, u 65, u 66, u 67, u 68, u 69, u 70, u 71, u 72, u 73, u 74, u 75, u 76, u 77, u 78, u 79] ∧ ∀ t, t < 80 → a.tmps.getD t undef = u t := by
  refine ⟨fun t => a.tmps.getD t undef, ?_, fun t _ => rfl⟩
  have e : a.tmps = ((List.range 80).map fun t => a.tmps.getD t undef).toArray := by
    apply Array.ext
    · simp [h]
    · intro i h1 h2
      simp [h1]
  exact e
def RRowsO (n : Nat) (w : World) (r : Except Int (List (List Nd))) (e : Ending) (w' : World) : Prop := Below w.heap.size w w' ∧ match r with
  | .ok pss => ∃ (A : Option Addr) (c : Nat) (RS : List NRow), e = .returned (.tuple #[.slice A RS.length c, .int .i64 0]) ∧ CellsAt w' 1 A (RS.map fun R => [rowV R]) ∧ NRowsAt clD (w.heap.size ≤ ·) w' n RS pss
  | .error er => e = .returned (.tuple #[.slice none 0 0, .int .i64 er])
structure S16 (w : World) (LA : Option Addr) (m lc : Nat) (a : Act) : Prop where
  size : a.tmps.size = 80
  df : a.defers = []
  s1 : a.tmps.getD 1 undef = .slice LA m lc
  s2 : a.tmps.getD 2 undef = .pointer (some ⟨w.heap.size, 0, none⟩)
  s4 : a.tmps.getD 4 undef = .slice none 0 0
  s5 : a.tmps.getD 5 undef = .int .i64 0
set_option maxRecDepth 100000 in
set_option maxHeartbeats 16000000 in
theorem rr0_e (n : Nat) (w : World) (tn : ByteArray) (ca : Option Addr) (cs : List Col) (cc : Nat) (ro ne rn : Int) (LA : Option Addr) (l : List XRow) (lc : Nat) (hl : l = []) : Calls Tryz.prog 16 #[.agg #[.string tn, .slice ca cs.length cc, .int .i64 ro, .int .i64 ne, .int .i64 rn], .slice LA l.length lc] w (RRowsO n w (rowsR (bindR n [] false) (cs.map Col.ty) l)) := by
  rw [show rowsR (bindR n [] false) (cs.map Col.ty) l = .error 7 from by unfold rowsR; rw [if_pos hl]]
  have HM := Lib.hid (BX.one w (.cells #[.string tn, .slice ca cs.length cc, .int .i64 ro, .int .i64 ne, .int .i64 rn] 65))
  obtain ⟨m, hm⟩ : ∃ m, m = l.length := ⟨_, rfl⟩
  have HML := Lib.hid hm
  rw [← hm]
  clear hm
  go_enter Tryz.func16, Tryz.ntmps16
  obtain rfl : m = 0 := by rw [HML.out, hl]; rfl
  go_wp2_with fail
  exact bodyPost_ret (res_tt rfl rfl rfl) rfl ⟨HM.out.below, rfl⟩
set_option maxRecDepth 100000 in
set_option maxHeartbeats 16000000 in
theorem rr0_m (n : Nat) (w : World) (tn : ByteArray) (ca : Option Addr) (cs : List Col) (cc : Nat) (ro ne rn : Int) (LA : Option Addr) (l : List XRow) (lc : Nat) (hl : 16 < l.length) : Calls Tryz.prog 16 #[.agg #[.string tn, .slice ca cs.length cc, .int .i64 ro, .int .i64 ne, .int .i64 rn], .slice LA l.length lc] w (RRowsO n w (rowsR (bindR n [] false) (cs.map Col.ty) l)) := by
  rw [show rowsR (bindR n [] false) (cs.map Col.ty) l = .error 11 from by unfold rowsR; rw [if_neg (fun h => by rw [h] at hl; exact absurd hl (by decide)), if_pos hl]]
  have HM := Lib.hid (BX.one w (.cells #[.string tn, .slice ca cs.length cc, .int .i64 ro, .int .i64 ne, .int .i64 rn] 65))
  obtain ⟨m, hm⟩ : ∃ m, m = l.length := ⟨_, rfl⟩
  have HML := Lib.hid hm
  rw [← hm]
  clear hm
  go_enter Tryz.func16, Tryz.ntmps16
  have h0 : ((m : Int) == 0) = false := beq_eq_false_iff_ne.2 (by have := HML.out; omega)
  have h1 : ((m : Int) = 0) = False := eq_false (by have := HML.out; omega)
  have h2 : ((16 : Int) < (m : Int)) = True := eq_true (by have := HML.out; omega)
  go_wp2_with fail
  exact bodyPost_ret (res_tt rfl rfl rfl) rfl ⟨HM.out.below, rfl⟩
set_option maxRecDepth 100000 in
set_option maxHeartbeats 16000000 in
theorem rr0_g (n : Nat) (w : World) (tn : ByteArray) (ca : Option Addr) (cs : List Col) (cc : Nat) (ro ne rn : Int) (LA : Option Addr) (l : List XRow) (lc : Nat) (hl : l ≠ []) (h16 : l.length ≤ 16) (HSEG : ∀ a W, S16 w LA l.length lc a → a.tmps.getD 6 undef = .slice none 0 0 → BX w [.cells #[.string tn, .slice ca cs.length cc, .int .i64 ro, .int .i64 ne, .int .i64 rn] 65] W → (rrC 4).wp Tryz.prog (bodyPost Tryz.prog Tryz.f16 (RRowsO n w (rowsR (bindR n [] false) (cs.map Col.ty) l))) a W) : Calls Tryz.prog 16 #[.agg #[.string tn, .slice ca cs.length cc, .int .i64 ro, .int .i64 ne, .int .i64 rn], .slice LA l.length lc] w (RRowsO n w (rowsR (bindR n [] false) (cs.map Col.ty) l)) := by
  have HM := Lib.hid (BX.one w (.cells #[.string tn, .slice ca cs.length cc, .int .i64 ro, .int .i64 ne, .int .i64 rn] 65))
  obtain ⟨m, hm⟩ : ∃ m, m = l.length := ⟨_, rfl⟩
  have HML := Lib.hid hm
  rw [← hm]
  clear hm
  go_enter Tryz.func16, Tryz.ntmps16
  have hp := List.length_pos_iff.2 hl
  have h0 : ((m : Int) == 0) = false := beq_eq_false_iff_ne.2 (by have := HML.out; omega)
  have h1 : ((m : Int) = 0) = False := eq_false (by have := HML.out; omega)
  have h2 : ((16 : Int) < (m : Int)) = False := eq_false (by have := HML.out; omega)
  have HS := Lib.hid HSEG
  clear HSEG
  refine wp_seq_k fun K0 hK0 => ?_
  have HK0 := Lib.hid hK0
  clear hK0
  go_wp2_with fail
  refine HK0.out _ _ ?_
  refine wp_seq_k fun K1 hK1 => ?_
  have HK1 := Lib.hid hK1
  clear hK1
  go_wp2_with fail
  refine HK1.out _ _ ?_
  refine wp_seq_k fun K2 hK2 => ?_
  have HK2 := Lib.hid hK2
  clear hK2
  go_wp2_with fail
  refine HK2.out _ _ ?_
  refine wp_seq_k fun K3 hK3 => ?_
  have HK3 := Lib.hid (show ∀ a w', (rrC 4).wp Tryz.prog (bodyPost Tryz.prog Tryz.f16 (RRowsO n w (rowsR (bindR n [] false) (cs.map Col.ty) l))) a w' → K3 a w' from hK3)
  clear hK3
  go_wp2_with fail
  rw [HML.out]
  refine HK3.out _ _ (HS.out _ _ ⟨?_, ?_, ?_, ?_, ?_, ?_⟩ ?_ HM.out)
  all_goals rfl
end Go.Proofs.YthdmfaepjemopaaGreatDoor
