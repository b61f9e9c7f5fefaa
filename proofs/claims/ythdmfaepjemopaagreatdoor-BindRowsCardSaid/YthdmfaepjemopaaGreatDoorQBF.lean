/- give: a recovered error; by the two modes of the frame below. Select: a query bound, or the error; what is given up is recovered. lives: what was read, as a statement. lives: what the statement is bound to. lives. The walk of the document's Bind where there is no table: words, and its end. -/
import Derived.Test.YthdmfaepjemopaaGreatDoorQAY
import Derived.Defers
import Derived.Recover
import Derived.Test.YthdmfaepjemopaaGreatDoorQAF
import Derived.Test.YthdmfaepjemopaaGreatDoorQBC
import Derived.Test.YthdmfaepjemopaaGreatDoorQBE
import Derived.Test.YthdmfaepjemopaaGreatDoorQAE
import Derived.Test.YthdmfaepjemopaaGreatDoorQAZ
namespace Go.Proofs.YthdmfaepjemopaaGreatDoor
open Go.RowKit
set_option maxRecDepth 100000
theorem assert_errno (er : Int) (w : World) : Sem.run Tryz.prog (Instr.typeAssert (.iface 49 (.int .i64 er)) 20 49 true) w = .ok (.tuple #[.int .i64 er, .bool true]) w := by kernel_rfl
theorem assert_nil (w : World) : Sem.run Tryz.prog (Instr.typeAssert .nilIface 20 49 true) w = .ok (.tuple #[.int .i64 0, .bool false]) w := by kernel_rfl

theorem give_panic (p : Addr) (x er : Int) (older : List PanicEntry) (w : World) (hc : w.cell? p = some (.int .i64 x)) (hz : w.frozen? p = false) :
    CallsD Tryz.prog 21 #[.pointer (some p)] (.panicking ({ v := .iface 49 (.int .i64 er), recovered := false } :: older)) w fun e u' w' =>
      e = .returned (.tuple #[]) ∧ u' = .panicking ({ v := .iface 49 (.int .i64 er), recovered := true } :: older) ∧ w' = w.setCell p (.int .i64 er) := by
  have h1 := assert_errno er
  refine callsD_of_wpS Tryz.func21 rfl fun c₀ cs hu => ?_
  apply wpS_seq
  apply wpS_region
  simp [wpOpsS, go_sem, recoverD, hu, Tryz.ntmps21, Exit.thenS, h1]
  apply wpS_seq
  apply wpS_region
  simp [wpOpsS, go_sem, Exit.thenS]
  refine wpS_cond (t := true) (by simp [Act.eval, Array.replicate]) ?_
  simp only [if_true]
  apply wpS_region
  simp [wpOpsS, go_sem, hc, hz, bodyPostS, results, Tryz.results21]

theorem give_idle (p : Addr) (w : World) :
    CallsD Tryz.prog 21 #[.pointer (some p)] .returning w fun e u' w' => e = .returned (.tuple #[]) ∧ u' = .returning ∧ w' = w := by
  have h1 := assert_nil
  refine callsD_of_wpS Tryz.func21 rfl fun c₀ cs hu => ?_
  apply wpS_seq
  apply wpS_region
  simp [wpOpsS, go_sem, recoverD, hu, Tryz.ntmps21, Exit.thenS, h1]
  apply wpS_seq
  apply wpS_region
  simp [wpOpsS, go_sem, Exit.thenS]
  refine wpS_cond (t := false) (by simp [Act.eval, Array.replicate]) ?_
  simp only [Bool.false_eq_true, if_false]
  refine wpS_of_wp (wp_skip ?_)
  cases c₀
  simp_all [bodyPostS, results, Tryz.results21]
end Go.Proofs.YthdmfaepjemopaaGreatDoor
namespace Go.Proofs.YthdmfaepjemopaaGreatDoor
open Go.RowKit

def SelectO (n : Nat) (w : World) (r : Except Int Qy) (e : Ending) (w' : World) : Prop := Below w.heap.size w w' ∧ match r with
  | .ok q => ∃ v, e = .returned (.tuple #[v, .int .i64 0]) ∧ QyAt (fun b => w.heap.size ≤ b) n w' q v
  | .error er => e = .returned (.tuple #[.agg qryZ, .int .i64 er])
set_option maxHeartbeats 400000 in
theorem BX.set9 {w W : World} {bs : List Obj} {k : Nat} {u0 u1 u2 u3 u4 u5 u6 u7 u8 : Value} {ty : TypeId} {fr : Nat × Nat} (h : BX w bs W) (hk : bs[k]? = some (.cells #[u0, u1, u2, u3, u4, u5, u6, u7, u8] ty fr)) {v0 v1 v2 v3 v4 v5 v6 v7 v8 : Value} : BX w (bs.set k (.cells #[v0, v1, v2, v3, v4, v5, v6, v7, v8] ty fr)) (((((((((W.setCell ⟨w.heap.size + k, 0, none⟩ v0).setCell ⟨w.heap.size + k, 1, none⟩ v1).setCell ⟨w.heap.size + k, 2, none⟩ v2).setCell ⟨w.heap.size + k, 3, none⟩ v3).setCell ⟨w.heap.size + k, 4, none⟩ v4).setCell ⟨w.heap.size + k, 5, none⟩ v5).setCell ⟨w.heap.size + k, 6, none⟩ v6).setCell ⟨w.heap.size + k, 7, none⟩ v7).setCell ⟨w.heap.size + k, 8, none⟩ v8) := by
  have hl := (List.getElem?_eq_some_iff.1 hk).1
  have h1 := h.set hk 0 v0
  change BX w (bs.set k (.cells #[v0, u1, u2, u3, u4, u5, u6, u7, u8] ty fr)) _ at h1
  have h2 := h1.set (List.getElem?_set_self hl) 1 v1
  rw [List.set_set] at h2
  change BX w (bs.set k (.cells #[v0, v1, u2, u3, u4, u5, u6, u7, u8] ty fr)) _ at h2
  have h3 := h2.set (List.getElem?_set_self hl) 2 v2
  rw [List.set_set] at h3
  change BX w (bs.set k (.cells #[v0, v1, v2, u3, u4, u5, u6, u7, u8] ty fr)) _ at h3
  have h4 := h3.set (List.getElem?_set_self hl) 3 v3
  rw [List.set_set] at h4
  change BX w (bs.set k (.cells #[v0, v1, v2, v3, u4, u5, u6, u7, u8] ty fr)) _ at h4
  have h5 := h4.set (List.getElem?_set_self hl) 4 v4
  rw [List.set_set] at h5
  change BX w (bs.set k (.cells #[v0, v1, v2, v3, v4, u5, u6, u7, u8] ty fr)) _ at h5
  have h6 := h5.set (List.getElem?_set_self hl) 5 v5
  rw [List.set_set] at h6
  change BX w (bs.set k (.cells #[v0, v1, v2, v3, v4, v5, u6, u7, u8] ty fr)) _ at h6
  have h7 := h6.set (List.getElem?_set_self hl) 6 v6
  rw [List.set_set] at h7
  change BX w (bs.set k (.cells #[v0, v1, v2, v3, v4, v5, v6, u7, u8] ty fr)) _ at h7
  have h8 := h7.set (List.getElem?_set_self hl) 7 v7
  rw [List.set_set] at h8
  change BX w (bs.set k (.cells #[v0, v1, v2, v3, v4, v5, v6, v7, u8] ty fr)) _ at h8
  have h9 := h8.set (List.getElem?_set_self hl) 8 v8
  rw [List.set_set] at h9
  change BX w (bs.set k (.cells #[v0, v1, v2, v3, v4, v5, v6, v7, v8] ty fr)) _ at h9
  exact h9
set_option maxHeartbeats 1000000 in
theorem res_qe {fn : Func} {i j : Nat} (h : fn.results = #[.cell i 48, .cell j 49]) {tm : Array Value} {W : World} {pb eb : Nat} (hp : tm[i]?.getD undef = .pointer (some ⟨pb, 0, none⟩)) (he : tm[j]?.getD undef = .pointer (some ⟨eb, 0, none⟩)) {u0 u1 u2 u3 u4 u5 u6 u7 u8 e0 : Value} {ty ty2 : TypeId} (h1 : W.heap[pb]? = some (.cells #[u0, u1, u2, u3, u4, u5, u6, u7, u8] ty)) (h2 : W.heap[eb]? = some (.cells #[e0] ty2)) :
    (results fn tm).run Tryz.prog W = .ok (.tuple #[.agg #[u0, u1, u2, u3, u4, u5, u6, u7, u8], e0]) W := by
  obtain ⟨a0, a1, a2, a3, a4, a5, a6, a7, a8⟩ := row9 h1
  have b0 := cell_of_row _ _ 0 _ _ _ h2
  simp [results, h, go_sem, hp, he, a0, a1, a2, a3, a4, a5, a6, a7, a8, b0]
theorem door_idle {fn : Func} {tmps : Array Value} {R : Ending → World → Prop} {p : Addr} {W : World} (h : ∃ v, (results fn tmps).run Tryz.prog W = .ok v W ∧ R (.returned v) W) : Leaves Tryz.prog fn tmps R [{ target := .fn (.func 21) #[], args := #[.pointer (some p)] }] .returning W := by
  refine leaves_cons (f := 21) (args := #[.pointer (some p)]) (by simp) (by simp [go_sem]) ?_
  refine (give_idle _ _).mono ?_
  rintro e u' w3 ⟨rfl, rfl, rfl⟩
  exact h
theorem QyAt.set {ok : Nat → Prop} {n : Nat} {W : World} {q : Qy} {v : Value} (h : QyAt ok n W q v) {g i : Nat} {u : Value} (hg : ∀ b, ok b → b ≠ g) : QyAt ok n (W.setCell ⟨g, i, none⟩ u) q v :=
  h.grown (set_grown W g i u) (fun b hb e => hg b hb (Option.some.inj e))
set_option maxRecDepth 100000 in
set_option maxHeartbeats 4000000 in
theorem select_any (n : Nat) (hn : 0 < n) (sA : Option Addr) (sk : Nat) (ia : Option Addr) (il ik : Nat) (ts : List (Tab × List Col)) (x : St) (w : World) (hD : DeepAt w sA ts) (ht : ∀ p ∈ ts, p.2.length ≤ 12) (hX : StAt w n x) (hM : StSmall n x) :
    Calls Tryz.prog 9 #[.agg #[.slice sA ts.length sk, .slice ia il ik], stV x] w (SelectO n w (chooseR n ts x)) := by
  have HCH := Lib.hid (show ∀ W, Below w.heap.size w W → Calls Tryz.prog 22 #[.agg #[.slice sA ts.length sk, .slice ia il ik], stV x] W (ChooseO n W (chooseR n ts x)) from fun W hB => choose_any n hn sA sk ia il ik ts x W (hD.keep hB) ht (hX.keep hB) hM)
  cases hr : chooseR n ts x with
  | error er =>
    rw [hr] at HCH
    clear hr hD ht hX hM hn
    go_enter_defers Tryz.func9, Tryz.ntmps9
    go_wp2_with (first
      | (go_at_call 22; (with_reducible refine Calls.mono (HCH.out _ (BX.four w _ _ _ _).below) ?_); rintro e w2 ⟨hB2, rfl⟩
         have HB2 := Lib.hid ((BX.four w _ _ _ _).keep hB2)
         clear hB2)
      | fail)
    refine leaves_cons (f := 21) (args := #[.pointer (some ⟨w.heap.size + 3, 0, none⟩)]) (by simp) (by simp [go_sem]) ?_
    have r3 := HB2.out.row 3 _ _ rfl
    refine (give_panic _ 0 er [] w2 (cell_of_row _ _ 0 _ _ _ r3) (frozen_of_row _ _ 0 _ _ r3)).mono ?_
    rintro e u' w3 ⟨rfl, rfl, rfl⟩
    have HF := HB2.out.set (k := 3) rfl 0 (.int .i64 er)
    exact ⟨_, res_qe (fn := Tryz.f9) rfl rfl rfl (HF.row 2 _ _ rfl) (HF.row 3 _ _ rfl), HF.below, rfl⟩
  | ok q =>
    rw [hr] at HCH
    clear hr hD ht hX hM hn
    go_enter_defers Tryz.func9, Tryz.ntmps9
    go_wp2_with (first
      | (go_at_call 22; (with_reducible refine Calls.mono (HCH.out _ (BX.four w _ _ _ _).below) ?_); rintro e w2 ⟨hB2, v, rfl, hQ⟩
         have HB2 := Lib.hid ((BX.four w _ _ _ _).keep hB2)
         have HQ := Lib.hid (hQ.mono (ok' := fun b => w.heap.size + 4 ≤ b) (fun b hb _ => by simp only [World.size_alloc] at hb; omega))
         obtain ⟨tA, tc, bA, bc, wA, wc, wvs, gA, gc, iA, ic, ivs, oA, oc, rfl, -⟩ := hQ
         obtain ⟨b0, b1, b2, b3, b4, b5, b6, b7, b8⟩ := row9 (HB2.out.row 2 _ _ rfl)
         obtain ⟨f0, f1, f2, f3, f4, f5, f6, f7, f8⟩ := free9 (HB2.out.row 2 _ _ rfl)
         have l2 := heap_lt (HB2.out.row 2 _ _ rfl)
         have c3 := cell_of_row _ _ 0 _ _ _ (HB2.out.row 3 _ _ rfl)
         have g3 := frozen_of_row _ _ 0 _ _ (HB2.out.row 3 _ _ rfl)
         have l3 := heap_lt (HB2.out.row 3 _ _ rfl)
         simp only [plus2, plus3] at b0 b1 b2 b3 b4 b5 b6 b7 b8 f0 f1 f2 f3 f4 f5 f6 f7 f8 l2 c3 g3 l3
         clear hB2)
      | fail)
    have HF := ((HB2.out.set9 (k := 2) (v0 := .slice tA q.tabs.length tc) (v1 := .slice bA q.begs.length bc) (v2 := .int .i64 q.width) (v3 := .slice wA wvs.length wc) (v4 := .slice gA q.grp.length gc) (v5 := .bool q.gr) (v6 := .slice iA ivs.length ic) (v7 := .slice oA q.ord.length oc) (v8 := .int .i64 q.lim) rfl).set9 (k := 2) (v0 := .slice tA q.tabs.length tc) (v1 := .slice bA q.begs.length bc) (v2 := .int .i64 q.width) (v3 := .slice wA wvs.length wc) (v4 := .slice gA q.grp.length gc) (v5 := .bool q.gr) (v6 := .slice iA ivs.length ic) (v7 := .slice oA q.ord.length oc) (v8 := .int .i64 q.lim) rfl).set (k := 3) rfl 0 (.int .i64 0)
    refine door_idle ⟨_, res_qe (fn := Tryz.f9) rfl rfl rfl (HF.row 2 _ _ rfl) (HF.row 3 _ _ rfl), HF.below, _, rfl, QyAt.mono (ok := fun b => w.heap.size + 4 ≤ b) ?_ (fun b hb _ => by omega)⟩
    iterate 19 refine QyAt.set ?_ (fun b hb => by omega)
    exact HQ.out
end Go.Proofs.YthdmfaepjemopaaGreatDoor
namespace Go.Proofs.YthdmfaepjemopaaGreatDoor
open Go.RowKit

theorem row_cells {W : World} {g : Nat} {ty : TypeId} {K : Nat} (ls : List (List Value)) (hl : ∀ x ∈ ls, x.length = K) (hm : ls.length ≤ maxLen) (h : W.heap[g]? = some (.cells ls.flatten.toArray ty)) : CellsAt W K (some ⟨g, 0, none⟩) ls := by
  have hf := flat_len hl
  have hown : W.ownsRow 0 ty K (.slice (some ⟨g, 0, none⟩) ls.length ls.length) ls.length ls.flatten := ⟨hf, Or.inr ⟨g, ls.length, ls.flatten.toArray, rfl, Nat.zero_le _, h, Nat.le_refl _, hm, by rw [List.size_toArray]; exact hf, by rw [← hf]; exact List.take_length⟩⟩
  obtain ⟨A, c, e, _, hC, _⟩ := own_cells hown hl rfl
  cases e
  exact hC
theorem ex_leaf {W : World} {x : Ex} (h : x.args = []) (n : Nat) : ExAt W (n + 1) x := by
  unfold ExAt
  rw [h]
  exact ⟨CellsAt.nil_at _ _ _, fun a ha => by cases ha⟩
theorem ex_of {n : Nat} {W : World} {x : Ex} (h : XA n W x) (m : Nat) : ExAt W (m + 2) x := by
  rcases h with h | ⟨g, y1, y2, ty, h1, h2, h3, h4, _, h6⟩
  · exact ex_leaf h (m + 1)
  · show CellsAt W 10 x.A (x.args.map exL) ∧ ∀ a ∈ x.args, ExAt W (m + 1) a
    rw [h1, h4]
    refine ⟨row_cells (ty := ty) [exL y1, exL y2] (fun z hz => ?_) (by unfold maxLen; simp) ?_, fun a ha => ?_⟩
    · rcases List.mem_cons.1 hz with rfl | hz
      · rfl
      · rcases List.mem_cons.1 hz with rfl | hz
        · rfl
        · cases hz
    · have e : [exL y1, exL y2].flatten = exL y1 ++ exL y2 := rfl
      rw [e]
      exact h6
    · rcases List.mem_cons.1 ha with rfl | ha
      · exact ex_leaf h2 m
      · rcases List.mem_cons.1 ha with rfl | ha
        · exact ex_leaf h3 m
        · cases ha
theorem exs_of {n : Nat} {W : World} {A : Option Addr} {x : Ex} (h : SX n W A x) (m : Nat) : ExsAt W (m + 2) A [x] := by
  obtain ⟨g, ty, rfl, _, h3, h4⟩ := h
  refine ⟨row_cells [exL x] (fun z hz => by rcases List.mem_cons.1 hz with rfl | hz; exact rfl; cases hz) (by unfold maxLen; simp) h3, fun a ha => ?_⟩
  rcases List.mem_cons.1 ha with rfl | ha
  · exact ex_of h4 m
  · cases ha
def stx (A1 : Option Addr) (x : Ex) (A2 : Option Addr) (k : Nat) (A3 : Option Addr) (y : Ex) : St := ⟨1, ⟨#[]⟩, none, 0, 0, none, 0, 0, none, 0, 0, false, A1, 1, [x], A2, k, [(wT, wT), (wU, wU)], A3, 1, [y], none, 0, [], none, 0, [], -1⟩
theorem stx_at {n : Nat} {W : World} {A1 A2 A3 : Option Addr} {x y : Ex} {k : Nat} (h1 : SX n W A1 x) (h2 : W.ownsRow n 60 2 (.slice A2 2 k) 2 [.string wT, .string wT, .string wU, .string wU]) (h3 : SX n W A3 y) : StAt W 3 (stx A1 x A2 k A3 y) := by
  obtain ⟨A, c, e, _, hC, _⟩ := own_cells (ls := [[.string wT, .string wT], [.string wU, .string wU]]) h2 (fun z hz => by
    rcases List.mem_cons.1 hz with rfl | hz
    · rfl
    · rcases List.mem_cons.1 hz with rfl | hz
      · rfl
      · cases hz) rfl
  cases e
  exact ⟨exs_of h1 1, hC, exs_of h3 1, ⟨CellsAt.nil_at _ _ _, fun a ha => by cases ha⟩, CellsAt.nil_at _ _ _, fun a ha => by cases ha⟩
theorem col_kind {rows : List Row} {x : Ex} {p : Nd} (h : colR rows x = .ok p) : p.kind = 2 ∧ p.args = [] := by
  unfold colR at h
  split at h
  · cases h
    exact ⟨rfl, rfl⟩
  · cases h
theorem bind_col (n : Nat) (rows : List Row) (fo : Bool) (t s : ByteArray) : bindR (n + 1) rows fo (colX t s) = colR rows (colX t s) := by
  simp [bindR, colX, Ex.kind, foldK, arity, opOk]
theorem tst_bind {n : Nat} {rows : List Row} {y : Ex} (hy : tst y) {p : Nd} (h : bindR (n + 2) rows false y = .ok p) : p.kind = 7 ∧ ∀ a ∈ p.args, a.kind = 2 ∧ a.args = [] := by
  obtain ⟨A, k, x, rfl, rfl⟩ := hy
  unfold bindR at h
  rw [if_neg (fun h => by have h1 : foldK 7 = true := h.1; revert h1; decide)] at h
  have ho : opOk 7 ⟨#[61]⟩ = true := by decide +kernel
  simp only [Ex.kind, Ex.op, Ex.args, show arity 7 = some 2 from rfl, ho] at h
  rw [if_neg (by decide), if_neg (by decide), if_neg (by decide), if_neg (by simp)] at h
  simp only [bindArgs, bind_col] at h
  cases h1 : colR rows (colX wT wA) with
  | error e => rw [h1] at h; cases h
  | ok p1 =>
    rw [h1] at h
    dsimp only at h
    cases h2 : colR rows (colX wU wA) with
    | error e => rw [h2] at h; cases h
    | ok p2 =>
      rw [h2] at h
      dsimp only at h
      split at h
      · cases h
      · cases h
        refine ⟨rfl, fun a ha => ?_⟩
        rcases List.mem_cons.1 ha with rfl | ha
        · exact col_kind h1
        · rcases List.mem_cons.1 ha with rfl | ha
          · exact col_kind h2
          · cases ha
theorem stx_small {A1 A2 A3 : Option Addr} {x y : Ex} {k : Nat} (hx : x = colX ⟨#[]⟩ wB) (hy : tst y) : StSmall 3 (stx A1 x A2 k A3 y) := by
  have hleaf : ∀ (t s : ByteArray) (n : Nat), SmallX n (colX t s) := fun t s n => by
    cases n with
    | zero => exact trivial
    | succ n => exact ⟨Nat.zero_le _, fun a ha => by cases ha⟩
  refine ⟨⟨by show 1 ≤ 30; omega, fun z hz => ?_⟩, ⟨by show 1 ≤ 30; omega, fun z hz => ?_, fun rows z hz p hp => ?_⟩, Nat.zero_le _, Nat.zero_le _⟩
  · rcases List.mem_cons.1 hz with rfl | hz
    · rw [hx]; exact hleaf _ _ _
    · cases hz
  · rcases List.mem_cons.1 hz with rfl | hz
    · obtain ⟨A, k, x, rfl, rfl⟩ := hy
      refine ⟨by show 2 ≤ 1000; omega, fun a ha => ?_⟩
      rcases List.mem_cons.1 ha with rfl | ha
      · exact hleaf _ _ _
      · rcases List.mem_cons.1 ha with rfl | ha
        · exact hleaf _ _ _
        · cases ha
    · cases hz
  · rcases List.mem_cons.1 hz with rfl | hz
    · obtain ⟨hk, ha⟩ := tst_bind hy hp
      refine ⟨⟨fun h => (by rw [hk] at h; cases h), fun a haa => ⟨fun h => (by rw [(ha a haa).1] at h; cases h), fun c hc => (by rw [(ha a haa).2] at hc; cases hc)⟩⟩, ?_⟩
      unfold partsR
      rw [if_neg (by rw [hk]; decide)]
      show 1 ≤ 1000
      omega
    · cases hz
end Go.Proofs.YthdmfaepjemopaaGreatDoor
namespace Go.Proofs.YthdmfaepjemopaaGreatDoor
open Go.RowKit

def tbl (nm : ByteArray) (A : Option Addr) (n c : Nat) : Tab := ⟨nm, A, n, c, 1, 1, 0⟩
def txtTs (A1 : Option Addr) (c1 : Nat) (A2 : Option Addr) (c2 : Nat) : List (Tab × List Col) := [(tbl wT A1 2 c1, colsT [1, 3]), (tbl wU A2 1 c2, colsT [1])]
def txtQ : Qy := ⟨[0, 1], [0, 2], 3, [.mk 7 ⟨#[61]⟩ zeroV 0 false 4 [.mk 2 ⟨#[]⟩ zeroV 0 false 1 [], .mk 2 ⟨#[]⟩ zeroV 2 false 1 []]], [], false, [.mk 2 ⟨#[]⟩ zeroV 1 false 3 []], [], -1⟩
set_option maxRecDepth 100000 in
theorem choose_txt (B1 : Option Addr) (c1 : Nat) (B2 : Option Addr) (c2 : Nat) {A1 A2 A3 : Option Addr} {x y : Ex} {k : Nat} (hx : x = colX ⟨#[]⟩ wB) (hy : tst y) : chooseR 3 (txtTs B1 c1 B2 c2) (stx A1 x A2 k A3 y) = .ok txtQ := by
  obtain ⟨A, m, z, rfl, rfl⟩ := hy
  subst hx
  kernel_rfl
end Go.Proofs.YthdmfaepjemopaaGreatDoor
namespace Go.Proofs.YthdmfaepjemopaaGreatDoor
open Go.RowKit

def TbP (nm : ByteArray) (tys : List Int) (w : World) (e : Ending) (w' : World) : Prop := ∃ (A : Option Addr) (c : Nat), e = .returned (.agg (tbR nm (.slice A tys.length c))) ∧ Below w.heap.size w w' ∧ w'.ownsRow w.heap.size 81 3 (.slice A tys.length c) tys.length ((colsT tys).map colL).flatten
theorem table_new (nm : ByteArray) (tys : List Int) (W : World) (ty : TypeId) (hn : tys.length ≤ 2) : Calls Tryz.prog 18 #[.string nm, .slice (some ⟨W.heap.size, 0, none⟩) tys.length tys.length] (W.alloc (.cells (tys.map (Value.int .i64)).toArray ty)) (TbP nm tys (W.alloc (.cells (tys.map (Value.int .i64)).toArray ty))) := by
  refine (mktab_any nm W.heap.size tys.length tys _ hn (fun j t ht => ?_) (by simp)).mono ?_
  · refine cell_of_row _ _ j _ _ _ (heap_alloc_new W _) |>.trans ?_
    simp [ht]
  · rintro e w' ⟨v, rfl, hB, ho⟩
    obtain ⟨A, c, rfl⟩ := own_slice ho
    refine ⟨A, c, rfl, hB, ?_⟩
    have hl : ((colsT tys).take tys.length) = colsT tys := List.take_of_length_le (by unfold colsT; simp; omega)
    rw [hl] at ho
    exact ho
theorem deep_of {W : World} {tb : Nat} {ty : TypeId} {A1 A2 : Option Addr} {c1 c2 b1 b2 : Nat} (hr : W.heap[tb]? = some (.cells #[.string wT, .slice A1 2 c1, .int .i64 1, .int .i64 1, .int .i64 0, .string wU, .slice A2 1 c2, .int .i64 1, .int .i64 1, .int .i64 0] ty)) (h1 : W.ownsRow b1 81 3 (.slice A1 2 c1) 2 ((colsT [1, 3]).map colL).flatten) (h2 : W.ownsRow b2 81 3 (.slice A2 1 c2) 1 ((colsT [1]).map colL).flatten) : DeepAt W (some ⟨tb, 0, none⟩) (txtTs A1 c1 A2 c2) := by
  have hlen : ∀ (l : List Col), ∀ z ∈ l.map colL, z.length = 3 := fun l z hz => by obtain ⟨q, _, rfl⟩ := List.mem_map.1 hz; rfl
  obtain ⟨A, c, e, hc1, hC1, _, hN1⟩ := own_cells h1 (hlen _) rfl
  cases e
  obtain ⟨A, c, e, hc2, hC2, _, hN2⟩ := own_cells h2 (hlen _) rfl
  cases e
  refine ⟨row_cells (ty := ty) [tabL (tbl wT A1 2 c1), tabL (tbl wU A2 1 c2)] (fun z hz => ?_) (by unfold maxLen; simp) hr, fun p hp => ?_⟩
  · rcases List.mem_cons.1 hz with rfl | hz
    · rfl
    · rcases List.mem_cons.1 hz with rfl | hz
      · rfl
      · cases hz
  · rcases List.mem_cons.1 hp with rfl | hp
    · exact ⟨hC1, rfl, hc1, fun h => (hN1 h).1⟩
    · rcases List.mem_cons.1 hp with rfl | hp
      · exact ⟨hC2, rfl, hc2, fun h => (hN2 h).1⟩
      · cases hp
theorem sel_txt {W : World} {tb c1 c2 k : Nat} {A1 A2 E1 E2 E3 : Option Addr} {x y : Ex} (hD : DeepAt W (some ⟨tb, 0, none⟩) (txtTs A1 c1 A2 c2)) (hX : StAt W 3 (stx E1 x E2 k E3 y)) (hx : x = colX ⟨#[]⟩ wB) (hy : tst y) : Calls Tryz.prog 9 #[.agg #[.slice (some ⟨tb, 0, none⟩) 2 2, .slice none 0 0], .agg (stR (.slice E1 1 1) (.slice E2 2 k) (.slice E3 1 1))] W (SelectO 3 W (.ok txtQ)) := by
  have h := select_any 3 (by omega) (some ⟨tb, 0, none⟩) 2 none 0 0 (txtTs A1 c1 A2 c2) (stx E1 x E2 k E3 y) W hD (fun p hp => by
    rcases List.mem_cons.1 hp with rfl | hp
    · show 2 ≤ 12
      omega
    · rcases List.mem_cons.1 hp with rfl | hp
      · show 1 ≤ 12
        omega
      · cases hp) hX (stx_small hx hy)
  rw [choose_txt A1 c1 A2 c2 hx hy] at h
  exact h
theorem qry_txt {ok : Nat → Prop} {W : World} {v : Value} (h : QyAt ok 3 W txtQ v) : ∃ (tA bA gA oA wA : Option Addr) (tc bc gc oc wc ib io ic : Nat), v = .agg #[.slice tA 2 tc, .slice bA 2 bc, .int .i64 3, .slice wA 1 wc, .slice gA 0 gc, .bool false, .slice (some ⟨ib, io, none⟩) 1 ic, .slice oA 0 oc, .int .i64 (-1)] ∧ ib < W.heap.size ∧ W.cell? ⟨ib, io + 6, none⟩ = some (.int .i64 1) ∧ W.cell? ⟨ib, io + 8, none⟩ = some (.int .i64 3) := by
  obtain ⟨tA, tc, bA, bc, wA, wc, wvs, gA, gc, iA, ic, ivs, oA, oc, rfl, _, _, _, hw, _, hI, hn, _⟩ := h
  have hw1 : wvs.length = 1 := hw.1
  have hi1 : ivs.length = 1 := hn.1
  obtain ⟨z, rfl⟩ : ∃ z, ivs = [z] := by
    match ivs, hi1 with
    | [z], _ => exact ⟨z, rfl⟩
  obtain ⟨B, bcap, vs, rfl, _⟩ := hn.2 0 z _ rfl rfl
  rcases hI.1.2 with h0 | ⟨ib, io, rfl, hib, hc⟩
  · cases h0
  · have h6 := (hc 0 _ rfl).2 6 _ rfl
    have h8 := (hc 0 _ rfl).2 8 _ rfl
    refine ⟨tA, bA, gA, oA, wA, tc, bc, gc, oc, wc, ib, io, ic, by rw [hw1]; rfl, hib, ?_, ?_⟩
    · simpa [Nd.pos] using h6
    · simpa [Nd.ty] using h8
theorem ps_txt (W : World) : Calls Tryz.prog 19 #[.string ⟨#[83, 69, 76, 69, 67, 84, 32, 98, 32, 70, 82, 79, 77, 32, 116, 44, 32, 117, 32, 87, 72, 69, 82, 69, 32, 116, 46, 97, 32, 61, 32, 117, 46, 97]⟩, .int .i64 100] W (PsP W) := by
  have h := parse_at txt 100 W lex_at
  unfold txt at h
  exact h
theorem tb_t (W : World) (ty : TypeId) : Calls Tryz.prog 18 #[.string ⟨#[116]⟩, .slice (some ⟨W.heap.size, 0, none⟩) 2 2] (W.alloc (.cells #[.int .i64 1, .int .i64 3] ty)) (TbP wT [1, 3] (W.alloc (.cells #[.int .i64 1, .int .i64 3] ty))) := by
  have h := table_new wT [1, 3] W ty (by simp)
  simp only [List.length_cons, List.length_nil, List.map_cons, List.map_nil] at h
  exact h
theorem tb_u (W : World) (ty : TypeId) : Calls Tryz.prog 18 #[.string ⟨#[117]⟩, .slice (some ⟨W.heap.size, 0, none⟩) 1 1] (W.alloc (.cells #[.int .i64 1] ty)) (TbP wU [1] (W.alloc (.cells #[.int .i64 1] ty))) := table_new wU [1] W ty (by simp)
set_option maxRecDepth 100000 in
set_option maxHeartbeats 32000000 in
theorem lives_any (w : World) : Calls Tryz.prog 6 #[] w (RetV (.bool true) w) := by
  have HT1 := Lib.hid tb_t
  have HT2 := Lib.hid tb_u
  have HPS := Lib.hid ps_txt
  go_enter Tryz.func6, Tryz.ntmps6
  go_wp2_with (first
    | (go_at_call 18; (with_reducible refine Calls.mono (HT1.out _ _) ?_); rintro e w2 ⟨A1, c1, rfl, hB, ho⟩
       have H2 := Lib.hid ((below1 w _).trans (hB.mono (below1 w _).size))
       have O1 := Lib.hid ho
       clear hB ho)
    | (go_at_call 18; (with_reducible refine Calls.mono (HT2.out _ _) ?_); rintro e w3 ⟨A2, c2, rfl, hB, ho⟩
       have H3 := Lib.hid ((below1 w2 _).trans (hB.mono (below1 w2 _).size))
       have O2 := Lib.hid ho
       have O1b := Lib.hid (own_kept O1.out H3.out (Nat.le_refl _))
       clear hB ho)
    | (go_at_call 19; (with_reducible refine Calls.mono (HPS.out _) ?_); rintro e w5 ⟨E1, E2, E3, k, x, y, rfl, hB, hS, hO, hS2, hx, hy⟩
       have HB5 := (BX.two w3 _ _).keep hB
       obtain ⟨lz, s0, s1, _⟩ := HB5.f2 1 rfl
       have HD := Lib.hid (deep_of (HB5.row0 _ _ rfl) (own_kept O1b.out HB5.below (Nat.le_refl _)) (own_kept O2.out HB5.below (Nat.le_refl _)))
       have HX := Lib.hid (stx_at hS hO hS2)
       have HEX := Lib.hid hx
       have HEY := Lib.hid hy
       have H5 := Lib.hid (btr (btr H2.out H3.out) HB5.below)
       clear hB hS hO hS2 hx hy HB5)
    | (go_at_call 9; (with_reducible refine Calls.mono (sel_txt (HD.out.keep (below1 w5 _)) (HX.out.keep (below1 w5 _)) HEX.out HEY.out) ?_); rintro e w6 ⟨hB6, v, rfl, hQ⟩
       obtain ⟨tA, bA, gA, oA, qA, tc, bc, gc, oc, qc, ib, io, ic, rfl, hib, i6, i8⟩ := qry_txt hQ
       have H6 := Lib.hid (btr H5.out (btr (below1 w5 _) hB6))
       clear hQ hB6)
    | fail)
  exact bodyPost_ret (results_tmp rfl _ _ _) rfl ⟨rfl, btr H6.out (below1 w6 _)⟩
end Go.Proofs.YthdmfaepjemopaaGreatDoor
namespace Go.Proofs.YthdmfaepjemopaaGreatDoor
open Go.RowKit

noncomputable def rbC (k : Nat) : Code := dropC k (Tryz.f27.body.getD .skip)
set_option maxRecDepth 100000 in
theorem open138 {a : Act} (h : a.tmps.size = 138) : ∃ u : Nat → Value, a.tmps = #[u 0, u 1, u 2, u 3, u 4, u 5, u 6, u 7, u 8, u 9, u 10, u 11, u 12, u 13, u 14, u 15, u 16, u 17, u 18, u 19, u 20, u 21, u 22, u 23, u 24, u 25, u 26, u 27, u 28, u 29, u 30, u 31, u 32, u 33, u 34, u 35, u 36, u 37, u 38, u 39, u 40, u 41, u 42, u 43, u 44, u 45, u 46, u 47, u 48, u 49, u 50, u 51, u 52, u 53, u 54, u 55, u 56, u 57, u 58, u 59, u 60, u 61, u 62, u 63, u 64, u 65, u 66, u 67, u 68, u 69, u 70, u 71, u 72, u 73, u 74, u 75, u 76, u 77, u 78, u 79, u 80, u 81, u 82, u 83, u 84, u 85, u 86, u 87, u 88, u 89, u 90, u 91, u 92, u 93, u 94, u 95, u 96, u 97, u 98, u 99, u 100, u 101, u 102, u 103, u 104, u 105, u 106, u 107, u 108, u 109, u 110, u 111, u 112, u 113, u 114, u 115, u 116, u 117, u 118, u 119, u 120, u 121, u 122, u 123, u 124, u 125, u 126, u 127, u 128, u 129, u 130, u 131, u 132, u 133, u 134, u 135, u 136, u 137] ∧ ∀ t, t < 138 → a.tmps.getD t undef = u t := by
  refine ⟨fun t => a.tmps.getD t undef, ?_, fun t _ => rfl⟩
  have e : a.tmps = ((List.range 138).map fun t => a.tmps.getD t undef).toArray := by
    apply Array.ext
    · simp [h]
    · intro i h1 h2
      simp [h1]
  exact e
def RBO (n : Nat) (w : World) (r : Except Int Nd) (e : Ending) (w' : World) : Prop := Below w.heap.size w w' ∧ match r with
  | .ok p => ∃ (A : Option Addr) (c q : Nat), e = .returned (.tuple #[ndV p (clD p.lit) A q c, .int .i64 0]) ∧ NdAt clD (w.heap.size ≤ ·) w' n (ndL p (clD p.lit) A q c) p
  | .error er => er ≠ 0 ∧ e = .returned (.tuple #[nd0V, .int .i64 er])
theorem clD_zero : clD zeroV = zeroV := by unfold clD zeroV; simp [clK, clN, rclF, clS]
structure S27 (w : World) (m : Int) (a : Act) : Prop where
  size : a.tmps.size = 138
  df : a.defers = []
  s2 : a.tmps.getD 2 undef = .pointer (some ⟨w.heap.size, 0, none⟩)
  s3 : a.tmps.getD 3 undef = .pointer (some ⟨w.heap.size + 1, 0, none⟩)
  s4 : a.tmps.getD 4 undef = .pointer (some ⟨w.heap.size + 2, 0, none⟩)
  s6 : a.tmps.getD 6 undef = .pointer (some ⟨w.heap.size + 3, 0, none⟩)
  s7 : a.tmps.getD 7 undef = .int .i64 m
structure T27 (w : World) (m : Int) (ob : Nat) (a : Act) : Prop where
  size : a.tmps.size = 138
  df : a.defers = []
  s2 : a.tmps.getD 2 undef = .pointer (some ⟨w.heap.size, 0, none⟩)
  s3 : a.tmps.getD 3 undef = .pointer (some ⟨w.heap.size + 1, 0, none⟩)
  s4 : a.tmps.getD 4 undef = .pointer (some ⟨w.heap.size + 2, 0, none⟩)
  s6 : a.tmps.getD 6 undef = .pointer (some ⟨w.heap.size + 3, 0, none⟩)
  s7 : a.tmps.getD 7 undef = .int .i64 m
  s9 : a.tmps.getD 9 undef = .pointer (some ⟨ob, 0, none⟩)
def okR (ob : Nat) (v1 v2 : Value) (b : Nat) : Prop := ob < b ∧ v1.ownBlock ≠ some b ∧ v2.ownBlock ≠ some b
structure RL (n : Nat) (w : World) (bs : List Obj) (ob : Nat) (orw : Array Value) (v1 : Value) (vs : List (List Value)) (ps : List Nd) (v2 : Value) (ts : List Int) (W : World) : Prop where
  bx : BX w bs W
  out : W.heap[ob]? = some (.cells orw 54)
  hob : w.heap.size + bs.length ≤ ob
  own1 : W.ownsRow (ob + 1) 54 10 v1 vs.length vs.flatten
  own2 : W.ownsRow (ob + 1) 3 1 v2 ts.length (ts.map (Value.int .i64))
  ne : ∀ b, v1.ownBlock = some b → v2.ownBlock ≠ some b
  nds : NdsAt clD (okR ob v1 v2) W n vs ps
  lens : ∀ x ∈ vs, x.length = 10
theorem RL.lt {n : Nat} {w : World} {bs : List Obj} {ob : Nat} {orw : Array Value} {v1 : Value} {vs : List (List Value)} {ps : List Nd} {v2 : Value} {ts : List Int} {W : World} (h : RL n w bs ob orw v1 vs ps v2 ts W) : ob < W.heap.size := heap_lt h.out
theorem RL.keep {n : Nat} {w : World} {bs : List Obj} {ob : Nat} {orw : Array Value} {v1 : Value} {vs : List (List Value)} {ps : List Nd} {v2 : Value} {ts : List Int} {W W' : World} (h : RL n w bs ob orw v1 vs ps v2 ts W) (hB : Below W.heap.size W W') : RL n w bs ob orw v1 vs ps v2 ts W' :=
  ⟨h.bx.keep hB, (hB.block _ (heap_lt h.out)).trans h.out, h.hob, own_kept h.own1 hB (Nat.le_refl _), own_kept h.own2 hB (Nat.le_refl _), h.ne, h.nds.keep hB, h.lens⟩
theorem RL.setO {n : Nat} {w : World} {bs : List Obj} {ob : Nat} {orw : Array Value} {v1 : Value} {vs : List (List Value)} {ps : List Nd} {v2 : Value} {ts : List Int} {W : World} (h : RL n w bs ob orw v1 vs ps v2 ts W) (i : Nat) (u : Value) : RL n w bs ob (orw.setIfInBounds i u) v1 vs ps v2 ts (W.setCell ⟨ob, i, none⟩ u) := by
  refine ⟨h.bx.out h.hob, ?_, h.hob, own_far h.own1 (by omega) u, own_far h.own2 (by omega) u, h.ne, h.nds.grown (set_grown W ob i u) (fun c hc e => by have := hc.1; have := Option.some.inj e; omega), h.lens⟩
  rw [setCell_eq_setRow W _ i _ 54 _ _ h.out]
  exact setRow_heap W _ _ _ 54 _ h.out
theorem RL.app1 {n : Nat} {w : World} {bs : List Obj} {ob : Nat} {orw : Array Value} {v1 : Value} {vs : List (List Value)} {ps : List Nd} {v2 : Value} {ts : List Int} {W W1 W2 : World} {x : List Value} {p : Nd} (h : RL n w bs ob orw v1 vs ps v2 ts W) (hB : Below W.heap.size W W1) (hx : NdAt clD (W.heap.size ≤ ·) W1 n x p)
    {v' : Value} (hown : W2.ownsRow (ob + 1) 54 10 v' (vs.length + 1) (vs.flatten ++ x)) (hg : W1.grownBy W2 v1.ownBlock) (hv : v'.ownBlock = v1.ownBlock ∨ v'.ownBlock = some W1.heap.size) : RL n w bs ob orw v' (vs ++ [x]) (ps ++ [p]) v2 ts W2 := by
  have h1 := h.keep hB
  have hb := own_base h1.own1
  have hb0 := own_base h.own1
  have hc := own_base h1.own2
  have hc0 := own_base h.own2
  have hsz := hB.size
  have hol := h.lt
  have hol1 := h1.lt
  have hob := h.hob
  refine ⟨h1.bx.grown2 hg (fun b e => by have := (hb b e).1; omega) (by omega), (hg.block _ hol1 (fun e => by have := (hb _ e.symm).1; omega)).trans h1.out, h.hob, ?_, own_grown h1.own2 hg (fun b hb2 e => h.ne b e.symm hb2), fun b e e2 => ?_, ?_, ?_⟩
  · rw [List.length_append, List.flatten_append]
    simpa using hown
  · rcases hv with hv | hv
    · rw [hv] at e; exact h.ne b e e2
    · rw [hv] at e; have := (hc b e2).2; cases e; omega
  · have ok' : ∀ b, b < W1.heap.size → v1.ownBlock ≠ some b → v'.ownBlock ≠ some b := fun b h1 h2 e => by
      rcases hv with hv | hv
      · rw [hv] at e; exact h2 e
      · rw [hv] at e; cases e; omega
    have hold : NdsAt clD (okR ob v' v2) W2 n vs ps := by
      have g1 : NdsAt clD (fun b => okR ob v1 v2 b ∧ b < W1.heap.size) W1 n vs ps := h1.nds.mono fun b hk hl => ⟨hk, hl⟩
      have g2 := g1.grown hg (fun b hk e => hk.1.2.1 e.symm)
      exact g2.mono fun b hk _ => ⟨hk.1.1, ok' b hk.2 hk.1.2.1, hk.1.2.2⟩
    have hnew : NdAt clD (okR ob v' v2) W2 n x p := by
      have g1 : NdAt clD (fun b => W.heap.size ≤ b ∧ b < W1.heap.size) W1 n x p := hx.mono fun b hk hl => ⟨hk, hl⟩
      have hne : ∀ b, W.heap.size ≤ b → v1.ownBlock ≠ some b := fun b hk e => by have := (hb0 b e).2; omega
      have hne2 : ∀ b, W.heap.size ≤ b → v2.ownBlock ≠ some b := fun b hk e => by have := (hc0 b e).2; omega
      have g2 := g1.grown hg (fun b hk e => hne b hk.1 e.symm)
      exact g2.mono fun b hk _ => ⟨by omega, ok' b hk.2 (hne b hk.1), hne2 b hk.1⟩
    exact hold.app ⟨rfl, fun i y q hy hq => by
      have hi : i = 0 := by have := (List.getElem?_eq_some_iff.1 hy).1; simpa using this
      subst hi
      cases hy
      cases hq
      exact hnew⟩
  · intro y hy
    rcases List.mem_append.1 hy with hy | hy
    · exact h.lens y hy
    · obtain rfl : y = x := by simpa using hy
      exact hx.len
theorem RL.app2 {n : Nat} {w : World} {bs : List Obj} {ob : Nat} {orw : Array Value} {v1 : Value} {vs : List (List Value)} {ps : List Nd} {v2 : Value} {ts : List Int} {W W2 : World} {z : Int} (h : RL n w bs ob orw v1 vs ps v2 ts W)
    {v' : Value} (hown : W2.ownsRow (ob + 1) 3 1 v' (ts.length + 1) (ts.map (Value.int .i64) ++ [.int .i64 z])) (hg : W.grownBy W2 v2.ownBlock) (hv : v'.ownBlock = v2.ownBlock ∨ v'.ownBlock = some W.heap.size) : RL n w bs ob orw v1 vs ps v' (ts ++ [z]) W2 := by
  have hb := own_base h.own2
  have hc := own_base h.own1
  have hol := h.lt
  have hob := h.hob
  refine ⟨h.bx.grown2 hg (fun b e => by have := (hb b e).1; omega) (by omega), (hg.block _ hol (fun e => by have := (hb _ e.symm).1; omega)).trans h.out, h.hob, own_grown h.own1 hg (fun b hb2 e => h.ne b hb2 e.symm), ?_, fun b e e2 => ?_, ?_, h.lens⟩
  · rw [List.length_append, List.map_append]
    exact hown
  · rcases hv with hv | hv
    · rw [hv] at e2; exact h.ne b e e2
    · rw [hv] at e2; have := (hc b e).2; cases e2; omega
  · have g1 : NdsAt clD (fun b => okR ob v1 v2 b ∧ b < W.heap.size) W n vs ps := h.nds.mono fun b hk hl => ⟨hk, hl⟩
    have g2 := g1.grown hg (fun b hk e => hk.1.2.2 e.symm)
    refine g2.mono fun b hk _ => ⟨hk.1.1, hk.1.2.1, fun e => ?_⟩
    rcases hv with hv | hv
    · rw [hv] at e; exact hk.1.2.2 e
    · rw [hv] at e; cases e; omega
theorem NdAt.set {cl : Vl → Vl} {ok : Nat → Prop} {n : Nat} {W : World} {x : List Value} {p : Nd} (h : NdAt cl ok W n x p) {g i : Nat} {u : Value} (hg : ∀ b, ok b → b ≠ g) : NdAt cl ok (W.setCell ⟨g, i, none⟩ u) n x p :=
  h.grown (set_grown W g i u) (fun b hb e => hg b hb (Option.some.inj e))
set_option maxRecDepth 100000 in
set_option maxHeartbeats 16000000 in
theorem rb8_o (n : Nat) (w : World) (k : Int) (op : ByteArray) (lk ln : Int) (lf : Nat) (ls tn nm : ByteArray) (ng : Bool) (xa : Option Addr) (q xc : Nat) (h7 : k ≠ 7) (h8 : k ≠ 8) (h9 : k ≠ 9) (m : Int) (ob : Nat) (t : Int) (ps : List Nd) (v1 : Value) (vs : List (List Value)) (B2 : Option Addr) (c2 : Nat) (ts : List Int) (ht : typeR k ts = .ok t) (hty : ∀ W B c, IntsAt W B ts → Calls Tryz.prog 49 #[.int .i64 k, .slice B ts.length c] W (RetV (tyO (typeR k ts)) W)) (r : Except Int Nd) (hr : r = .ok (.mk k ⟨#[]⟩ zeroV 0 false t ps)) (a : Act) (W : World) (hS : T27 w m ob a) (h10 : a.tmps.getD 10 undef = .slice B2 ts.length c2) (hL : RL n w [.cells #[.slice none 0 0, .slice none 0 0, .slice none 0 0, .bool false] 92, .cells #[.int .i64 k, .string op, .int .i64 lk, .int .i64 ln, .float .f64 lf, .string ls, .string tn, .string nm, .bool ng, .slice xa q xc] 41, .cells #[.int .i64 0, .string ⟨#[]⟩, .int .i64 0, .int .i64 0, .float .f64 0, .string ⟨#[]⟩, .int .i64 0, .bool false, .int .i64 0, .slice none 0 0] 54, .cells #[.int .i64 0, .string ⟨#[]⟩, .int .i64 0, .int .i64 0, .float .f64 0, .string ⟨#[]⟩, .int .i64 0, .bool false, .int .i64 0, .slice none 0 0] 54] ob #[.int .i64 k, .string ⟨#[]⟩, .int .i64 0, .int .i64 0, .float .f64 0, .string ⟨#[]⟩, .int .i64 0, .bool false, .int .i64 0, v1] v1 vs ps (.slice B2 ts.length c2) ts W) : (rbC 8).wp Tryz.prog (bodyPost Tryz.prog Tryz.f27 (RBO (n + 1) w r)) a W := by
  subst hr
  obtain ⟨B2', c2', he2, _, hI, _, _⟩ := own_ints hL.own2 rfl
  injection he2 with hp1 hp2 hp3
  subst hp1 hp3
  obtain ⟨A, c, rfl, _, hC, hbl, _⟩ := own_cells hL.own1 hL.lens rfl
  have HT := Lib.hid (show Calls Tryz.prog 49 #[.int .i64 k, .slice B2 ts.length c2] W (RetV (.tuple #[.int .i64 t, .int .i64 0]) W) from by have := hty W B2 c2 hI; rw [ht] at this; exact this)
  have HL := Lib.hid hL
  have HC := Lib.hid hC
  have HBL := Lib.hid hbl
  have e7 : (k == 7) = false := beq_eq_false_iff_ne.2 h7
  have e8 : (k == 8) = false := beq_eq_false_iff_ne.2 h8
  have e9 : (k == 9) = false := beq_eq_false_iff_ne.2 h9
  obtain ⟨as0, as1, as2, as3⟩ := row4 (hL.bx.row0 _ _ rfl)
  obtain ⟨ax0, ax1, ax2, ax3, ax4, ax5, ax6, ax7, ax8, ax9⟩ := row10 (hL.bx.row 1 _ _ rfl)
  clear hL hC hI hbl hty ht
  obtain ⟨u, hu, hug⟩ := open138 hS.size
  have p2 := hS.s2; have p3 := hS.s3; have p4 := hS.s4; have p6 := hS.s6; have p7 := hS.s7; have p9 := hS.s9
  have hdf := hS.df
  rw [hug _ (by omega)] at p2 p3 p4 p6 p7 p9 h10
  obtain ⟨tm, df⟩ := a
  dsimp only at hu hdf
  subst hu hdf
  clear hS hug
  rw [p2, p3, p4, p6, p7, p9, h10]
  clear p2 p3 p4 p6 p7 p9 h10
  have sf := store_float
  conv => arg 2; whnf
  refine wp_seq_k fun K0 hK0 => ?_
  have HK0 := Lib.hid hK0
  clear hK0
  go_wp2_with (first
    | (go_at_call 49; (with_reducible refine HT.out.mono ?_); rintro e w5 ⟨rfl, hB5⟩
       have HL5 := Lib.hid (HL.out.keep hB5)
       have HC5 := Lib.hid (CellsAt.keep hB5 HC.out)
       clear hB5)
    | fail)
  refine HK0.out _ _ ?_
  clear as0 as1 as2 as3 ax0 ax1 ax2 ax3 ax4 ax5 ax6 ax7 ax8 ax9 HT HL HC
  obtain ⟨bs0, bs1, bs2, bs3⟩ := row4 (HL5.out.bx.row0 _ _ rfl)
  obtain ⟨bx0, bx1, bx2, bx3, bx4, bx5, bx6, bx7, bx8, bx9⟩ := row10 (HL5.out.bx.row 1 _ _ rfl)
  obtain ⟨o0, o1, o2, o3, o4, o5, o6, o7, o8, o9⟩ := row10 HL5.out.out
  obtain ⟨f0, f1, f2, f3, f4, f5, f6, f7, f8, f9⟩ := free10 HL5.out.out
  obtain ⟨g0, g1, g2, g3, g4, g5, g6, g7, g8, g9⟩ := free10 (HL5.out.bx.row 2 _ _ rfl)
  obtain ⟨e0, e1, e2, e3, e4, e5, e6, e7, e8, e9⟩ := row10 (HL5.out.bx.row 2 _ _ rfl)
  have lo := HL5.out.lt
  have lb := heap_lt (HL5.out.bx.row 2 _ _ rfl)
  have hob : w.heap.size + 4 ≤ ob := HL5.out.hob
  have hne2 : (ob = w.heap.size + 2) = False := eq_false (by omega)
  have hne3 : (w.heap.size + 2 = ob) = False := eq_false (by omega)
  have hne4 : (ob = w.heap.size + 1) = False := eq_false (by omega)
  have hne5 : (w.heap.size + 1 = ob) = False := eq_false (by omega)
  have HS1 := Lib.hid (HL5.out.setO 8 (.int .i64 t))
  have HF := Lib.hid (HS1.out.bx.set10 (k := 2) (v0 := .int .i64 k) (v1 := .string ⟨#[]⟩) (v2 := .int .i64 0) (v3 := .int .i64 0) (v4 := .float .f64 0) (v5 := .string ⟨#[]⟩) (v6 := .int .i64 0) (v7 := .bool false) (v8 := .int .i64 t) (v9 := .slice A vs.length c) rfl)
  go_wp2_with fail
  refine bodyPost_ret (res_n (fn := Tryz.f27) rfl rfl rfl (HF.out.row 2 _ _ rfl)) rfl ⟨HF.out.below, A, c, vs.length, ?_, ?_⟩
  · show Ending.returned (.tuple #[ndV (.mk k ⟨#[]⟩ zeroV 0 false t ps) zeroV A vs.length c, .int .i64 0]) = _
    rw [show clD (Nd.mk k ⟨#[]⟩ zeroV 0 false t ps).lit = zeroV from clD_zero]
  · have hN1 : NdAt clD (fun b => ob < b) (w5.setCell ⟨ob, 8, none⟩ (.int .i64 t)) (n + 1) (ndL (.mk k ⟨#[]⟩ zeroV 0 false t ps) zeroV A vs.length c) (.mk k ⟨#[]⟩ zeroV 0 false t ps) := by
      refine ⟨A, c, vs, by rw [show clD (Nd.mk k ⟨#[]⟩ zeroV 0 false t ps).lit = zeroV from clD_zero], ?_, fun _ a ha => by have := (HBL.out a ha).1; omega, HS1.out.nds.1, fun i x y hx hy => (HS1.out.nds.2 i x y hx hy).mono fun b hb _ => hb.1⟩
      obtain ⟨A', c', he', _, hC', _, _⟩ := own_cells HS1.out.own1 HS1.out.lens rfl
      injection he' with hq1 hq2 hq3
      subst hq1
      exact hC'
    rw [show clD (Nd.mk k ⟨#[]⟩ zeroV 0 false t ps).lit = zeroV from clD_zero]
    refine NdAt.mono (ok := fun b => ob < b) (fun b hb _ => by omega) ?_
    iterate 10 refine NdAt.set ?_ (fun b hb => by omega)
    exact hN1
set_option maxRecDepth 100000 in
set_option maxHeartbeats 16000000 in
theorem rb8_7 (n : Nat) (w : World) (op : ByteArray) (lk ln : Int) (lf : Nat) (ls tn nm : ByteArray) (ng : Bool) (xa : Option Addr) (q xc : Nat)  (m : Int) (ob : Nat) (t : Int) (ps : List Nd) (v1 : Value) (vs : List (List Value)) (B2 : Option Addr) (c2 : Nat) (ts : List Int) (ht : typeR 7 ts = .ok t) (hty : ∀ W B c, IntsAt W B ts → Calls Tryz.prog 49 #[.int .i64 7, .slice B ts.length c] W (RetV (tyO (typeR 7 ts)) W)) (r : Except Int Nd) (hr : r = .ok (.mk 7 op zeroV 0 false t ps)) (a : Act) (W : World) (hS : T27 w m ob a) (h10 : a.tmps.getD 10 undef = .slice B2 ts.length c2) (hL : RL n w [.cells #[.slice none 0 0, .slice none 0 0, .slice none 0 0, .bool false] 92, .cells #[.int .i64 7, .string op, .int .i64 lk, .int .i64 ln, .float .f64 lf, .string ls, .string tn, .string nm, .bool ng, .slice xa q xc] 41, .cells #[.int .i64 0, .string ⟨#[]⟩, .int .i64 0, .int .i64 0, .float .f64 0, .string ⟨#[]⟩, .int .i64 0, .bool false, .int .i64 0, .slice none 0 0] 54, .cells #[.int .i64 0, .string ⟨#[]⟩, .int .i64 0, .int .i64 0, .float .f64 0, .string ⟨#[]⟩, .int .i64 0, .bool false, .int .i64 0, .slice none 0 0] 54] ob #[.int .i64 7, .string ⟨#[]⟩, .int .i64 0, .int .i64 0, .float .f64 0, .string ⟨#[]⟩, .int .i64 0, .bool false, .int .i64 0, v1] v1 vs ps (.slice B2 ts.length c2) ts W) : (rbC 8).wp Tryz.prog (bodyPost Tryz.prog Tryz.f27 (RBO (n + 1) w r)) a W := by
  subst hr
  obtain ⟨B2', c2', he2, _, hI, _, _⟩ := own_ints hL.own2 rfl
  injection he2 with hp1 hp2 hp3
  subst hp1 hp3
  obtain ⟨A, c, rfl, _, hC, hbl, _⟩ := own_cells hL.own1 hL.lens rfl
  have HT := Lib.hid (show Calls Tryz.prog 49 #[.int .i64 7, .slice B2 ts.length c2] W (RetV (.tuple #[.int .i64 t, .int .i64 0]) W) from by have := hty W B2 c2 hI; rw [ht] at this; exact this)
  have HL := Lib.hid hL
  have HC := Lib.hid hC
  have HBL := Lib.hid hbl
  obtain ⟨as0, as1, as2, as3⟩ := row4 (hL.bx.row0 _ _ rfl)
  obtain ⟨ax0, ax1, ax2, ax3, ax4, ax5, ax6, ax7, ax8, ax9⟩ := row10 (hL.bx.row 1 _ _ rfl)
  clear hL hC hI hbl hty ht
  obtain ⟨u, hu, hug⟩ := open138 hS.size
  have p2 := hS.s2; have p3 := hS.s3; have p4 := hS.s4; have p6 := hS.s6; have p7 := hS.s7; have p9 := hS.s9
  have hdf := hS.df
  rw [hug _ (by omega)] at p2 p3 p4 p6 p7 p9 h10
  obtain ⟨tm, df⟩ := a
  dsimp only at hu hdf
  subst hu hdf
  clear hS hug
  rw [p2, p3, p4, p6, p7, p9, h10]
  clear p2 p3 p4 p6 p7 p9 h10
  have sf := store_float
  conv => arg 2; whnf
  refine wp_seq_k fun K0 hK0 => ?_
  have HK0 := Lib.hid hK0
  clear hK0
  go_wp2_with (first
    | (go_at_call 49; (with_reducible refine HT.out.mono ?_); rintro e w5 ⟨rfl, hB5⟩
       have HL5 := Lib.hid (HL.out.keep hB5)
       have HC5 := Lib.hid (CellsAt.keep hB5 HC.out)
       clear hB5)
    | fail)
  refine HK0.out _ _ ?_
  clear as0 as1 as2 as3 ax0 ax1 ax2 ax3 ax4 ax5 ax6 ax7 ax8 ax9 HT HL HC
  obtain ⟨bs0, bs1, bs2, bs3⟩ := row4 (HL5.out.bx.row0 _ _ rfl)
  obtain ⟨bx0, bx1, bx2, bx3, bx4, bx5, bx6, bx7, bx8, bx9⟩ := row10 (HL5.out.bx.row 1 _ _ rfl)
  obtain ⟨o0, o1, o2, o3, o4, o5, o6, o7, o8, o9⟩ := row10 HL5.out.out
  obtain ⟨f0, f1, f2, f3, f4, f5, f6, f7, f8, f9⟩ := free10 HL5.out.out
  obtain ⟨g0, g1, g2, g3, g4, g5, g6, g7, g8, g9⟩ := free10 (HL5.out.bx.row 2 _ _ rfl)
  obtain ⟨e0, e1, e2, e3, e4, e5, e6, e7, e8, e9⟩ := row10 (HL5.out.bx.row 2 _ _ rfl)
  have lo := HL5.out.lt
  have lb := heap_lt (HL5.out.bx.row 2 _ _ rfl)
  have hob : w.heap.size + 4 ≤ ob := HL5.out.hob
  have hne2 : (ob = w.heap.size + 2) = False := eq_false (by omega)
  have hne3 : (w.heap.size + 2 = ob) = False := eq_false (by omega)
  have hne4 : (ob = w.heap.size + 1) = False := eq_false (by omega)
  have hne5 : (w.heap.size + 1 = ob) = False := eq_false (by omega)
  have HS1 := Lib.hid ((HL5.out.setO 8 (.int .i64 t)).setO 1 (.string op))
  have HF := Lib.hid (HS1.out.bx.set10 (k := 2) (v0 := .int .i64 7) (v1 := .string op) (v2 := .int .i64 0) (v3 := .int .i64 0) (v4 := .float .f64 0) (v5 := .string ⟨#[]⟩) (v6 := .int .i64 0) (v7 := .bool false) (v8 := .int .i64 t) (v9 := .slice A vs.length c) rfl)
  go_wp2_with fail
  refine bodyPost_ret (res_n (fn := Tryz.f27) rfl rfl rfl (HF.out.row 2 _ _ rfl)) rfl ⟨HF.out.below, A, c, vs.length, ?_, ?_⟩
  · show Ending.returned (.tuple #[ndV (.mk 7 op zeroV 0 false t ps) zeroV A vs.length c, .int .i64 0]) = _
    rw [show clD (Nd.mk 7 op zeroV 0 false t ps).lit = zeroV from clD_zero]
  · have hN1 : NdAt clD (fun b => ob < b) ((w5.setCell ⟨ob, 8, none⟩ (.int .i64 t)).setCell ⟨ob, 1, none⟩ (.string op)) (n + 1) (ndL (.mk 7 op zeroV 0 false t ps) zeroV A vs.length c) (.mk 7 op zeroV 0 false t ps) := by
      refine ⟨A, c, vs, by rw [show clD (Nd.mk 7 op zeroV 0 false t ps).lit = zeroV from clD_zero], ?_, fun _ a ha => by have := (HBL.out a ha).1; omega, HS1.out.nds.1, fun i x y hx hy => (HS1.out.nds.2 i x y hx hy).mono fun b hb _ => hb.1⟩
      obtain ⟨A', c', he', _, hC', _, _⟩ := own_cells HS1.out.own1 HS1.out.lens rfl
      injection he' with hq1 hq2 hq3
      subst hq1
      exact hC'
    rw [show clD (Nd.mk 7 op zeroV 0 false t ps).lit = zeroV from clD_zero]
    refine NdAt.mono (ok := fun b => ob < b) (fun b hb _ => by omega) ?_
    iterate 10 refine NdAt.set ?_ (fun b hb => by omega)
    exact hN1
set_option maxRecDepth 100000 in
set_option maxHeartbeats 16000000 in
theorem rb8_8 (n : Nat) (w : World) (op : ByteArray) (lk ln : Int) (lf : Nat) (ls tn nm : ByteArray) (ng : Bool) (xa : Option Addr) (q xc : Nat)  (m : Int) (ob : Nat) (t : Int) (ps : List Nd) (v1 : Value) (vs : List (List Value)) (B2 : Option Addr) (c2 : Nat) (ts : List Int) (ht : typeR 8 ts = .ok t) (hty : ∀ W B c, IntsAt W B ts → Calls Tryz.prog 49 #[.int .i64 8, .slice B ts.length c] W (RetV (tyO (typeR 8 ts)) W)) (r : Except Int Nd) (hr : r = .ok (.mk 8 op zeroV 0 false t ps)) (a : Act) (W : World) (hS : T27 w m ob a) (h10 : a.tmps.getD 10 undef = .slice B2 ts.length c2) (hL : RL n w [.cells #[.slice none 0 0, .slice none 0 0, .slice none 0 0, .bool false] 92, .cells #[.int .i64 8, .string op, .int .i64 lk, .int .i64 ln, .float .f64 lf, .string ls, .string tn, .string nm, .bool ng, .slice xa q xc] 41, .cells #[.int .i64 0, .string ⟨#[]⟩, .int .i64 0, .int .i64 0, .float .f64 0, .string ⟨#[]⟩, .int .i64 0, .bool false, .int .i64 0, .slice none 0 0] 54, .cells #[.int .i64 0, .string ⟨#[]⟩, .int .i64 0, .int .i64 0, .float .f64 0, .string ⟨#[]⟩, .int .i64 0, .bool false, .int .i64 0, .slice none 0 0] 54] ob #[.int .i64 8, .string ⟨#[]⟩, .int .i64 0, .int .i64 0, .float .f64 0, .string ⟨#[]⟩, .int .i64 0, .bool false, .int .i64 0, v1] v1 vs ps (.slice B2 ts.length c2) ts W) : (rbC 8).wp Tryz.prog (bodyPost Tryz.prog Tryz.f27 (RBO (n + 1) w r)) a W := by
  subst hr
  obtain ⟨B2', c2', he2, _, hI, _, _⟩ := own_ints hL.own2 rfl
  injection he2 with hp1 hp2 hp3
  subst hp1 hp3
  obtain ⟨A, c, rfl, _, hC, hbl, _⟩ := own_cells hL.own1 hL.lens rfl
  have HT := Lib.hid (show Calls Tryz.prog 49 #[.int .i64 8, .slice B2 ts.length c2] W (RetV (.tuple #[.int .i64 t, .int .i64 0]) W) from by have := hty W B2 c2 hI; rw [ht] at this; exact this)
  have HL := Lib.hid hL
  have HC := Lib.hid hC
  have HBL := Lib.hid hbl
  obtain ⟨as0, as1, as2, as3⟩ := row4 (hL.bx.row0 _ _ rfl)
  obtain ⟨ax0, ax1, ax2, ax3, ax4, ax5, ax6, ax7, ax8, ax9⟩ := row10 (hL.bx.row 1 _ _ rfl)
  clear hL hC hI hbl hty ht
  obtain ⟨u, hu, hug⟩ := open138 hS.size
  have p2 := hS.s2; have p3 := hS.s3; have p4 := hS.s4; have p6 := hS.s6; have p7 := hS.s7; have p9 := hS.s9
  have hdf := hS.df
  rw [hug _ (by omega)] at p2 p3 p4 p6 p7 p9 h10
  obtain ⟨tm, df⟩ := a
  dsimp only at hu hdf
  subst hu hdf
  clear hS hug
  rw [p2, p3, p4, p6, p7, p9, h10]
  clear p2 p3 p4 p6 p7 p9 h10
  have sf := store_float
  conv => arg 2; whnf
  refine wp_seq_k fun K0 hK0 => ?_
  have HK0 := Lib.hid hK0
  clear hK0
  go_wp2_with (first
    | (go_at_call 49; (with_reducible refine HT.out.mono ?_); rintro e w5 ⟨rfl, hB5⟩
       have HL5 := Lib.hid (HL.out.keep hB5)
       have HC5 := Lib.hid (CellsAt.keep hB5 HC.out)
       clear hB5)
    | fail)
  refine HK0.out _ _ ?_
  clear as0 as1 as2 as3 ax0 ax1 ax2 ax3 ax4 ax5 ax6 ax7 ax8 ax9 HT HL HC
  obtain ⟨bs0, bs1, bs2, bs3⟩ := row4 (HL5.out.bx.row0 _ _ rfl)
  obtain ⟨bx0, bx1, bx2, bx3, bx4, bx5, bx6, bx7, bx8, bx9⟩ := row10 (HL5.out.bx.row 1 _ _ rfl)
  obtain ⟨o0, o1, o2, o3, o4, o5, o6, o7, o8, o9⟩ := row10 HL5.out.out
  obtain ⟨f0, f1, f2, f3, f4, f5, f6, f7, f8, f9⟩ := free10 HL5.out.out
  obtain ⟨g0, g1, g2, g3, g4, g5, g6, g7, g8, g9⟩ := free10 (HL5.out.bx.row 2 _ _ rfl)
  obtain ⟨e0, e1, e2, e3, e4, e5, e6, e7, e8, e9⟩ := row10 (HL5.out.bx.row 2 _ _ rfl)
  have lo := HL5.out.lt
  have lb := heap_lt (HL5.out.bx.row 2 _ _ rfl)
  have hob : w.heap.size + 4 ≤ ob := HL5.out.hob
  have hne2 : (ob = w.heap.size + 2) = False := eq_false (by omega)
  have hne3 : (w.heap.size + 2 = ob) = False := eq_false (by omega)
  have hne4 : (ob = w.heap.size + 1) = False := eq_false (by omega)
  have hne5 : (w.heap.size + 1 = ob) = False := eq_false (by omega)
  have HS1 := Lib.hid ((HL5.out.setO 8 (.int .i64 t)).setO 1 (.string op))
  have HF := Lib.hid (HS1.out.bx.set10 (k := 2) (v0 := .int .i64 8) (v1 := .string op) (v2 := .int .i64 0) (v3 := .int .i64 0) (v4 := .float .f64 0) (v5 := .string ⟨#[]⟩) (v6 := .int .i64 0) (v7 := .bool false) (v8 := .int .i64 t) (v9 := .slice A vs.length c) rfl)
  go_wp2_with fail
  refine bodyPost_ret (res_n (fn := Tryz.f27) rfl rfl rfl (HF.out.row 2 _ _ rfl)) rfl ⟨HF.out.below, A, c, vs.length, ?_, ?_⟩
  · show Ending.returned (.tuple #[ndV (.mk 8 op zeroV 0 false t ps) zeroV A vs.length c, .int .i64 0]) = _
    rw [show clD (Nd.mk 8 op zeroV 0 false t ps).lit = zeroV from clD_zero]
  · have hN1 : NdAt clD (fun b => ob < b) ((w5.setCell ⟨ob, 8, none⟩ (.int .i64 t)).setCell ⟨ob, 1, none⟩ (.string op)) (n + 1) (ndL (.mk 8 op zeroV 0 false t ps) zeroV A vs.length c) (.mk 8 op zeroV 0 false t ps) := by
      refine ⟨A, c, vs, by rw [show clD (Nd.mk 8 op zeroV 0 false t ps).lit = zeroV from clD_zero], ?_, fun _ a ha => by have := (HBL.out a ha).1; omega, HS1.out.nds.1, fun i x y hx hy => (HS1.out.nds.2 i x y hx hy).mono fun b hb _ => hb.1⟩
      obtain ⟨A', c', he', _, hC', _, _⟩ := own_cells HS1.out.own1 HS1.out.lens rfl
      injection he' with hq1 hq2 hq3
      subst hq1
      exact hC'
    rw [show clD (Nd.mk 8 op zeroV 0 false t ps).lit = zeroV from clD_zero]
    refine NdAt.mono (ok := fun b => ob < b) (fun b hb _ => by omega) ?_
    iterate 10 refine NdAt.set ?_ (fun b hb => by omega)
    exact hN1
set_option maxRecDepth 100000 in
set_option maxHeartbeats 16000000 in
theorem rb8_9 (n : Nat) (w : World) (op : ByteArray) (lk ln : Int) (lf : Nat) (ls tn nm : ByteArray) (ng : Bool) (xa : Option Addr) (q xc : Nat)  (m : Int) (ob : Nat) (t : Int) (ps : List Nd) (v1 : Value) (vs : List (List Value)) (B2 : Option Addr) (c2 : Nat) (ts : List Int) (ht : typeR 9 ts = .ok t) (hty : ∀ W B c, IntsAt W B ts → Calls Tryz.prog 49 #[.int .i64 9, .slice B ts.length c] W (RetV (tyO (typeR 9 ts)) W)) (r : Except Int Nd) (hr : r = .ok (.mk 9 ⟨#[]⟩ zeroV 0 ng t ps)) (a : Act) (W : World) (hS : T27 w m ob a) (h10 : a.tmps.getD 10 undef = .slice B2 ts.length c2) (hL : RL n w [.cells #[.slice none 0 0, .slice none 0 0, .slice none 0 0, .bool false] 92, .cells #[.int .i64 9, .string op, .int .i64 lk, .int .i64 ln, .float .f64 lf, .string ls, .string tn, .string nm, .bool ng, .slice xa q xc] 41, .cells #[.int .i64 0, .string ⟨#[]⟩, .int .i64 0, .int .i64 0, .float .f64 0, .string ⟨#[]⟩, .int .i64 0, .bool false, .int .i64 0, .slice none 0 0] 54, .cells #[.int .i64 0, .string ⟨#[]⟩, .int .i64 0, .int .i64 0, .float .f64 0, .string ⟨#[]⟩, .int .i64 0, .bool false, .int .i64 0, .slice none 0 0] 54] ob #[.int .i64 9, .string ⟨#[]⟩, .int .i64 0, .int .i64 0, .float .f64 0, .string ⟨#[]⟩, .int .i64 0, .bool false, .int .i64 0, v1] v1 vs ps (.slice B2 ts.length c2) ts W) : (rbC 8).wp Tryz.prog (bodyPost Tryz.prog Tryz.f27 (RBO (n + 1) w r)) a W := by
  subst hr
  obtain ⟨B2', c2', he2, _, hI, _, _⟩ := own_ints hL.own2 rfl
  injection he2 with hp1 hp2 hp3
  subst hp1 hp3
  obtain ⟨A, c, rfl, _, hC, hbl, _⟩ := own_cells hL.own1 hL.lens rfl
  have HT := Lib.hid (show Calls Tryz.prog 49 #[.int .i64 9, .slice B2 ts.length c2] W (RetV (.tuple #[.int .i64 t, .int .i64 0]) W) from by have := hty W B2 c2 hI; rw [ht] at this; exact this)
  have HL := Lib.hid hL
  have HC := Lib.hid hC
  have HBL := Lib.hid hbl
  obtain ⟨as0, as1, as2, as3⟩ := row4 (hL.bx.row0 _ _ rfl)
  obtain ⟨ax0, ax1, ax2, ax3, ax4, ax5, ax6, ax7, ax8, ax9⟩ := row10 (hL.bx.row 1 _ _ rfl)
  clear hL hC hI hbl hty ht
  obtain ⟨u, hu, hug⟩ := open138 hS.size
  have p2 := hS.s2; have p3 := hS.s3; have p4 := hS.s4; have p6 := hS.s6; have p7 := hS.s7; have p9 := hS.s9
  have hdf := hS.df
  rw [hug _ (by omega)] at p2 p3 p4 p6 p7 p9 h10
  obtain ⟨tm, df⟩ := a
  dsimp only at hu hdf
  subst hu hdf
  clear hS hug
  rw [p2, p3, p4, p6, p7, p9, h10]
  clear p2 p3 p4 p6 p7 p9 h10
  have sf := store_float
  conv => arg 2; whnf
  refine wp_seq_k fun K0 hK0 => ?_
  have HK0 := Lib.hid hK0
  clear hK0
  go_wp2_with (first
    | (go_at_call 49; (with_reducible refine HT.out.mono ?_); rintro e w5 ⟨rfl, hB5⟩
       have HL5 := Lib.hid (HL.out.keep hB5)
       have HC5 := Lib.hid (CellsAt.keep hB5 HC.out)
       clear hB5)
    | fail)
  refine HK0.out _ _ ?_
  clear as0 as1 as2 as3 ax0 ax1 ax2 ax3 ax4 ax5 ax6 ax7 ax8 ax9 HT HL HC
  obtain ⟨bs0, bs1, bs2, bs3⟩ := row4 (HL5.out.bx.row0 _ _ rfl)
  obtain ⟨bx0, bx1, bx2, bx3, bx4, bx5, bx6, bx7, bx8, bx9⟩ := row10 (HL5.out.bx.row 1 _ _ rfl)
  obtain ⟨o0, o1, o2, o3, o4, o5, o6, o7, o8, o9⟩ := row10 HL5.out.out
  obtain ⟨f0, f1, f2, f3, f4, f5, f6, f7, f8, f9⟩ := free10 HL5.out.out
  obtain ⟨g0, g1, g2, g3, g4, g5, g6, g7, g8, g9⟩ := free10 (HL5.out.bx.row 2 _ _ rfl)
  obtain ⟨e0, e1, e2, e3, e4, e5, e6, e7, e8, e9⟩ := row10 (HL5.out.bx.row 2 _ _ rfl)
  have lo := HL5.out.lt
  have lb := heap_lt (HL5.out.bx.row 2 _ _ rfl)
  have hob : w.heap.size + 4 ≤ ob := HL5.out.hob
  have hne2 : (ob = w.heap.size + 2) = False := eq_false (by omega)
  have hne3 : (w.heap.size + 2 = ob) = False := eq_false (by omega)
  have hne4 : (ob = w.heap.size + 1) = False := eq_false (by omega)
  have hne5 : (w.heap.size + 1 = ob) = False := eq_false (by omega)
  have HS1 := Lib.hid ((HL5.out.setO 8 (.int .i64 t)).setO 7 (.bool ng))
  have HF := Lib.hid (HS1.out.bx.set10 (k := 2) (v0 := .int .i64 9) (v1 := .string ⟨#[]⟩) (v2 := .int .i64 0) (v3 := .int .i64 0) (v4 := .float .f64 0) (v5 := .string ⟨#[]⟩) (v6 := .int .i64 0) (v7 := .bool ng) (v8 := .int .i64 t) (v9 := .slice A vs.length c) rfl)
  go_wp2_with fail
  refine bodyPost_ret (res_n (fn := Tryz.f27) rfl rfl rfl (HF.out.row 2 _ _ rfl)) rfl ⟨HF.out.below, A, c, vs.length, ?_, ?_⟩
  · show Ending.returned (.tuple #[ndV (.mk 9 ⟨#[]⟩ zeroV 0 ng t ps) zeroV A vs.length c, .int .i64 0]) = _
    rw [show clD (Nd.mk 9 ⟨#[]⟩ zeroV 0 ng t ps).lit = zeroV from clD_zero]
  · have hN1 : NdAt clD (fun b => ob < b) ((w5.setCell ⟨ob, 8, none⟩ (.int .i64 t)).setCell ⟨ob, 7, none⟩ (.bool ng)) (n + 1) (ndL (.mk 9 ⟨#[]⟩ zeroV 0 ng t ps) zeroV A vs.length c) (.mk 9 ⟨#[]⟩ zeroV 0 ng t ps) := by
      refine ⟨A, c, vs, by rw [show clD (Nd.mk 9 ⟨#[]⟩ zeroV 0 ng t ps).lit = zeroV from clD_zero], ?_, fun _ a ha => by have := (HBL.out a ha).1; omega, HS1.out.nds.1, fun i x y hx hy => (HS1.out.nds.2 i x y hx hy).mono fun b hb _ => hb.1⟩
      obtain ⟨A', c', he', _, hC', _, _⟩ := own_cells HS1.out.own1 HS1.out.lens rfl
      injection he' with hq1 hq2 hq3
      subst hq1
      exact hC'
    rw [show clD (Nd.mk 9 ⟨#[]⟩ zeroV 0 ng t ps).lit = zeroV from clD_zero]
    refine NdAt.mono (ok := fun b => ob < b) (fun b hb _ => by omega) ?_
    iterate 10 refine NdAt.set ?_ (fun b hb => by omega)
    exact hN1
set_option maxRecDepth 100000 in
set_option maxHeartbeats 16000000 in
theorem rb8_e (n : Nat) (w : World) (k : Int) (op : ByteArray) (lk ln : Int) (lf : Nat) (ls tn nm : ByteArray) (ng : Bool) (xa : Option Addr) (q xc : Nat) (m : Int) (ob : Nat) (er : Int) (her : er ≠ 0) (ps : List Nd) (v1 : Value) (vs : List (List Value)) (B2 : Option Addr) (c2 : Nat) (ts : List Int) (ht : typeR k ts = .error er) (hty : ∀ W B c, IntsAt W B ts → Calls Tryz.prog 49 #[.int .i64 k, .slice B ts.length c] W (RetV (tyO (typeR k ts)) W)) (r : Except Int Nd) (hr : r = .error er) (a : Act) (W : World) (hS : T27 w m ob a) (h10 : a.tmps.getD 10 undef = .slice B2 ts.length c2) (hL : RL n w [.cells #[.slice none 0 0, .slice none 0 0, .slice none 0 0, .bool false] 92, .cells #[.int .i64 k, .string op, .int .i64 lk, .int .i64 ln, .float .f64 lf, .string ls, .string tn, .string nm, .bool ng, .slice xa q xc] 41, .cells #[.int .i64 0, .string ⟨#[]⟩, .int .i64 0, .int .i64 0, .float .f64 0, .string ⟨#[]⟩, .int .i64 0, .bool false, .int .i64 0, .slice none 0 0] 54, .cells #[.int .i64 0, .string ⟨#[]⟩, .int .i64 0, .int .i64 0, .float .f64 0, .string ⟨#[]⟩, .int .i64 0, .bool false, .int .i64 0, .slice none 0 0] 54] ob #[.int .i64 k, .string ⟨#[]⟩, .int .i64 0, .int .i64 0, .float .f64 0, .string ⟨#[]⟩, .int .i64 0, .bool false, .int .i64 0, v1] v1 vs ps (.slice B2 ts.length c2) ts W) : (rbC 8).wp Tryz.prog (bodyPost Tryz.prog Tryz.f27 (RBO (n + 1) w r)) a W := by
  subst hr
  obtain ⟨B2', c2', he2, _, hI, _, _⟩ := own_ints hL.own2 rfl
  injection he2 with hp1 hp2 hp3
  subst hp1 hp3
  have HT := Lib.hid (show Calls Tryz.prog 49 #[.int .i64 k, .slice B2 ts.length c2] W (RetV (.tuple #[.int .i64 0, .int .i64 er]) W) from by have := hty W B2 c2 hI; rw [ht] at this; exact this)
  have HL := Lib.hid hL
  have HER := Lib.hid her
  have her0 : (er == 0) = false := beq_eq_false_iff_ne.2 her
  have her1 : (er = 0) = False := eq_false her
  obtain ⟨as0, as1, as2, as3⟩ := row4 (hL.bx.row0 _ _ rfl)
  obtain ⟨ax0, ax1, ax2, ax3, ax4, ax5, ax6, ax7, ax8, ax9⟩ := row10 (hL.bx.row 1 _ _ rfl)
  clear hL hI hty ht her
  obtain ⟨u, hu, hug⟩ := open138 hS.size
  have p2 := hS.s2; have p3 := hS.s3; have p4 := hS.s4; have p6 := hS.s6; have p7 := hS.s7; have p9 := hS.s9
  have hdf := hS.df
  rw [hug _ (by omega)] at p2 p3 p4 p6 p7 p9 h10
  obtain ⟨tm, df⟩ := a
  dsimp only at hu hdf
  subst hu hdf
  clear hS hug
  rw [p2, p3, p4, p6, p7, p9, h10]
  clear p2 p3 p4 p6 p7 p9 h10
  have sf := store_float
  conv => arg 2; whnf
  refine wp_seq_k fun K0 hK0 => ?_
  have HK0 := Lib.hid hK0
  clear hK0
  go_wp2_with (first
    | (go_at_call 49; (with_reducible refine HT.out.mono ?_); rintro e w5 ⟨rfl, hB5⟩
       have HL5 := Lib.hid (HL.out.keep hB5)
       clear hB5)
    | fail)
  refine HK0.out _ _ ?_
  clear as0 as1 as2 as3 ax0 ax1 ax2 ax3 ax4 ax5 ax6 ax7 ax8 ax9 HT HL
  obtain ⟨g0, g1, g2, g3, g4, g5, g6, g7, g8, g9⟩ := free10 (HL5.out.bx.row 2 _ _ rfl)
  obtain ⟨e0, e1, e2, e3, e4, e5, e6, e7, e8, e9⟩ := row10 (HL5.out.bx.row 2 _ _ rfl)
  obtain ⟨z0, z1, z2, z3, z4, z5, z6, z7, z8, z9⟩ := row10 (HL5.out.bx.row 3 _ _ rfl)
  have lb := heap_lt (HL5.out.bx.row 2 _ _ rfl)
  have HF := Lib.hid (HL5.out.bx.set10 (k := 2) (v0 := .int .i64 0) (v1 := .string ⟨#[]⟩) (v2 := .int .i64 0) (v3 := .int .i64 0) (v4 := .float .f64 0) (v5 := .string ⟨#[]⟩) (v6 := .int .i64 0) (v7 := .bool false) (v8 := .int .i64 0) (v9 := .slice none 0 0) rfl)
  go_wp2_with fail
  exact bodyPost_ret (res_n (fn := Tryz.f27) rfl rfl rfl (HF.out.row 2 _ _ rfl)) rfl ⟨HF.out.below, HER.out, rfl⟩
end Go.Proofs.YthdmfaepjemopaaGreatDoor
