/- The contract of a scope's expr: any expression. The walk of bind's parts: what must hold, taken apart. -/
import Derived.Test.YthdmfaepjemopaaGreatDoorQAM
import Derived.Test.YthdmfaepjemopaaGreatDoorQAN
import Derived.Test.YthdmfaepjemopaaGreatDoorQAO
import Derived.Test.YthdmfaepjemopaaGreatDoorQAP
import Derived.Test.YthdmfaepjemopaaGreatDoorQAQ
import Derived.Deep.RegionHeld3
namespace Go.Proofs.YthdmfaepjemopaaGreatDoor
open Go.RowKit

def argsR (n : Nat) (rows : List Row) (fo : Bool) (m : Nat) (x : Ex) : Except Int (List Nd) := if x.args.length = m then bindArgs (bindR n rows fo) x.args else .error 7
theorem bindArgs_len {f : Ex → Except Int Nd} {l : List Ex} {ps : List Nd} (h : bindArgs f l = .ok ps) : ps.length = l.length := by
  induction l generalizing ps with
  | nil => unfold bindArgs at h; cases h; rfl
  | cons x l ih =>
    unfold bindArgs at h
    cases hx : f x with
    | error e => rw [hx] at h; cases h
    | ok p =>
      rw [hx] at h
      dsimp only at h
      cases hl : bindArgs f l with
      | error e => rw [hl] at h; cases h
      | ok qs => rw [hl] at h; cases h; rw [List.length_cons, List.length_cons, ih hl]
theorem argsR_len {n : Nat} {rows : List Row} {fo : Bool} {m : Nat} {x : Ex} {ps : List Nd} (h : argsR n rows fo m x = .ok ps) : ps.length = m := by
  unfold argsR at h
  split at h
  · rename_i e
    rw [bindArgs_len h, e]
  · cases h
theorem bindR_args {n : Nat} {rows : List Row} {fo : Bool} {x : Ex} {m : Nat} (hf : ¬ (foldK x.kind = true ∧ fo = false)) (ha : arity x.kind = some m) (ho : opOk x.kind x.op = true) (h1 : x.kind ≠ 1) (h2 : x.kind ≠ 2) :
    bindR (n + 1) rows fo x = match argsR n rows (fo && !foldK x.kind) m x with
      | .error e => .error e
      | .ok ps => match typeR x.kind (ps.map Nd.ty) with
        | .error e => .error e
        | .ok t => .ok (.mk x.kind (if x.kind = 7 ∨ x.kind = 8 then x.op else ⟨#[]⟩) zeroV 0 (if x.kind = 9 then x.neg else false) t ps) := by
  unfold bindR argsR
  rw [if_neg hf, ha]
  dsimp only
  rw [if_neg (by rw [ho]; decide), if_neg h2, if_neg h1]
  by_cases hl : x.args.length = m
  · rw [if_neg (fun h => h hl), if_pos hl]
    cases bindArgs (bindR n rows (fo && !foldK x.kind)) x.args <;> rfl
  · rw [if_pos hl, if_neg hl]
theorem ps1 {ps : List Nd} (h : ps.length = 1) : ∃ p, ps = [p] := by
  match ps, h with
  | [p], _ => exact ⟨p, rfl⟩
theorem ps2 {ps : List Nd} (h : ps.length = 2) : ∃ p q, ps = [p, q] := by
  match ps, h with
  | [p, q], _ => exact ⟨p, q, rfl⟩
def SmallX : Nat → Ex → Prop
  | 0, _ => True
  | n + 1, x => x.args.length ≤ 1000 ∧ ∀ a ∈ x.args, SmallX n a
def ExprIH (n : Nat) (s : Sc) : Prop := ∀ (x : Ex) (ins fol : Bool) (w : World), ScAt w s → ExAt w n x → SmallX n x → Calls Tryz.prog 25 #[scV s ins fol, exV x] w (ExprO n w (bindR n s.rows (fol && !ins) x))
theorem args_ih {n : Nat} {s : Sc} (ih : ExprIH n s) {x : Ex} (m : Nat) (ins fol : Bool) {w : World} (hS : ScAt w s) (hX : ExAt w (n + 1) x) (hM : SmallX (n + 1) x) : ∀ W, Below w.heap.size w W → Calls Tryz.prog 41 #[scV s ins fol, exV x, .int .i64 m] W (ArgsO n W (argsR n s.rows (fol && !ins) m x)) := by
  intro W hB
  refine args_any n s ins fol x m (bindR n s.rows (fol && !ins)) W (CellsAt.keep hB hX.1) hM.1 fun y hy W' hB' => ?_
  have hB2 : Below w.heap.size w W' := hB.trans (hB'.mono hB.size)
  exact ih y ins fol W' (hS.keep hB2) ((hX.2 y hy).keep hB2) (hM.2 y hy)
theorem comT_iff (a b : Int) : comT a b = true ↔ (a = 0 ∨ b = 0 ∨ a = b) := by
  unfold comT
  rw [Bool.or_eq_true, Bool.or_eq_true, beq_iff_eq, beq_iff_eq, beq_iff_eq, or_assoc]
theorem expr_step {n : Nat} {s : Sc} (ih : ExprIH n s) (hm : s.rows.length ≤ 1000) : ExprIH (n + 1) s := by
  intro x ins fol w hS hX hM
  by_cases k1 : x.kind = 1
  · have e : bindR (n + 1) s.rows (fol && !ins) x = .ok (.mk 1 ⟨#[]⟩ x.lit 0 false (clK x.lit.k) []) := by
      unfold bindR
      rw [k1]
      rfl
    rw [e]
    exact expr_lit n s ins fol x w k1
  by_cases k2 : x.kind = 2
  · have e : bindR (n + 1) s.rows (fol && !ins) x = colR s.rows x := by
      unfold bindR
      rw [k2]
      rfl
    rw [e]
    exact expr_sub2 (n + 1) s ins fol x w k2 _ fun W hB => column_e n s ins fol x W (hS.keep hB) hm
  by_cases k3 : x.kind = 3
  · have hf : foldK x.kind = false := by rw [k3]; rfl
    have e := bindR_args (n := n) (rows := s.rows) (fo := fol && !ins) (x := x) (m := 1) (by rw [hf]; exact fun h => absurd h.1 (by decide)) (by rw [k3]; rfl) (by rw [k3]; rfl) k1 k2
    have HA := args_ih ih 1 ins fol hS hX hM
    rw [hf, Bool.not_false, Bool.and_true] at e
    rw [e]
    cases hA : argsR n s.rows (fol && !ins) 1 x with
    | error er => rw [hA] at HA; exact expr_neg_args n s ins fol x w k3 er HA
    | ok ps =>
      rw [hA] at HA
      obtain ⟨p0, rfl⟩ := ps1 (argsR_len hA)
      dsimp only
      rw [k3]
      show Calls _ _ _ _ (ExprO (n + 1) w (match (if likeT p0.ty [1, 2] then Except.ok p0.ty else Except.error (70 : Int)) with | .error e => .error e | .ok t => .ok (Nd.mk 3 ⟨#[]⟩ zeroV 0 false t [p0])))
      cases hl : likeT p0.ty [1, 2] with
      | true => exact expr_neg_ok n s ins fol x w k3 p0 hl HA
      | false => exact expr_neg_ty n s ins fol x w k3 p0 hl HA
  by_cases k4 : x.kind = 4
  · have hf : foldK x.kind = false := by rw [k4]; rfl
    have e := bindR_args (n := n) (rows := s.rows) (fo := fol && !ins) (x := x) (m := 1) (by rw [hf]; exact fun h => absurd h.1 (by decide)) (by rw [k4]; rfl) (by rw [k4]; rfl) k1 k2
    have HA := args_ih ih 1 ins fol hS hX hM
    rw [hf, Bool.not_false, Bool.and_true] at e
    rw [e]
    clear e
    cases hA : argsR n s.rows (fol && !ins) 1 x with
    | error er => rw [hA] at HA; exact expr_bool4_args n s ins fol x w k4 er HA
    | ok ps =>
      rw [hA] at HA
      have hl := argsR_len hA
      have := expr_bool4 n s ins fol x w k4 ps hl HA
      obtain ⟨p0, rfl⟩ := ps1 hl
      dsimp only
      rw [k4]
      show Calls _ _ _ _ (ExprO (n + 1) w (match (if likeT p0.ty [4] then Except.ok 4 else Except.error (70 : Int)) with | .error e => .error e | .ok t => .ok (Nd.mk 4 ⟨#[]⟩ zeroV 0 false t [p0])))
      rw [show [p0].all (fun p => likeT p.ty [4]) = likeT p0.ty [4] from by simp] at this
      cases hl : likeT p0.ty [4] with
      | true => rw [hl] at this; exact this
      | false => rw [hl] at this; exact this
  by_cases k5 : x.kind = 5
  · have hf : foldK x.kind = false := by rw [k5]; rfl
    have e := bindR_args (n := n) (rows := s.rows) (fo := fol && !ins) (x := x) (m := 2) (by rw [hf]; exact fun h => absurd h.1 (by decide)) (by rw [k5]; rfl) (by rw [k5]; rfl) k1 k2
    have HA := args_ih ih 2 ins fol hS hX hM
    rw [hf, Bool.not_false, Bool.and_true] at e
    rw [e]
    clear e
    cases hA : argsR n s.rows (fol && !ins) 2 x with
    | error er => rw [hA] at HA; exact expr_bool5_args n s ins fol x w k5 er HA
    | ok ps =>
      rw [hA] at HA
      have hl := argsR_len hA
      have := expr_bool5 n s ins fol x w k5 ps hl HA
      obtain ⟨p0, p1, rfl⟩ := ps2 hl
      dsimp only
      rw [k5]
      show Calls _ _ _ _ (ExprO (n + 1) w (match (if likeT p0.ty [4] && likeT p1.ty [4] then Except.ok 4 else Except.error (70 : Int)) with | .error e => .error e | .ok t => .ok (Nd.mk 5 ⟨#[]⟩ zeroV 0 false t [p0, p1])))
      rw [show [p0, p1].all (fun p => likeT p.ty [4]) = (likeT p0.ty [4] && likeT p1.ty [4]) from by simp] at this
      cases hl : (likeT p0.ty [4] && likeT p1.ty [4]) with
      | true => rw [hl] at this; exact this
      | false => rw [hl] at this; exact this
  by_cases k6 : x.kind = 6
  · have hf : foldK x.kind = false := by rw [k6]; rfl
    have e := bindR_args (n := n) (rows := s.rows) (fo := fol && !ins) (x := x) (m := 2) (by rw [hf]; exact fun h => absurd h.1 (by decide)) (by rw [k6]; rfl) (by rw [k6]; rfl) k1 k2
    have HA := args_ih ih 2 ins fol hS hX hM
    rw [hf, Bool.not_false, Bool.and_true] at e
    rw [e]
    clear e
    cases hA : argsR n s.rows (fol && !ins) 2 x with
    | error er => rw [hA] at HA; exact expr_bool6_args n s ins fol x w k6 er HA
    | ok ps =>
      rw [hA] at HA
      have hl := argsR_len hA
      have := expr_bool6 n s ins fol x w k6 ps hl HA
      obtain ⟨p0, p1, rfl⟩ := ps2 hl
      dsimp only
      rw [k6]
      show Calls _ _ _ _ (ExprO (n + 1) w (match (if likeT p0.ty [4] && likeT p1.ty [4] then Except.ok 4 else Except.error (70 : Int)) with | .error e => .error e | .ok t => .ok (Nd.mk 6 ⟨#[]⟩ zeroV 0 false t [p0, p1])))
      rw [show [p0, p1].all (fun p => likeT p.ty [4]) = (likeT p0.ty [4] && likeT p1.ty [4]) from by simp] at this
      cases hl : (likeT p0.ty [4] && likeT p1.ty [4]) with
      | true => rw [hl] at this; exact this
      | false => rw [hl] at this; exact this
  by_cases k7 : x.kind = 7
  · cases hop : opOk 7 x.op with
    | false =>
      have e : bindR (n + 1) s.rows (fol && !ins) x = .error 7 := by
        unfold bindR
        rw [k7, hop]
        rfl
      rw [e]
      exact expr_cmp_op (n + 1) s ins fol x w k7 hop
    | true =>
      have hf : foldK x.kind = false := by rw [k7]; rfl
      have e := bindR_args (n := n) (rows := s.rows) (fo := fol && !ins) (x := x) (m := 2) (by rw [hf]; exact fun h => absurd h.1 (by decide)) (by rw [k7]; rfl) (by rw [k7]; exact hop) k1 k2
      have HA := args_ih ih 2 ins fol hS hX hM
      rw [hf, Bool.not_false, Bool.and_true] at e
      rw [e]
      clear e
      cases hA : argsR n s.rows (fol && !ins) 2 x with
      | error er => rw [hA] at HA; exact expr_cmp_args n s ins fol x w k7 hop er HA
      | ok ps =>
        rw [hA] at HA
        obtain ⟨p0, p1, rfl⟩ := ps2 (argsR_len hA)
        dsimp only
        rw [k7]
        show Calls _ _ _ _ (ExprO (n + 1) w (match (if p0.ty = 0 ∨ p1.ty = 0 ∨ p0.ty = p1.ty then Except.ok 4 else Except.error (70 : Int)) with | .error e => .error e | .ok t => .ok (Nd.mk 7 x.op zeroV 0 false t [p0, p1])))
        cases hc : comT p0.ty p1.ty with
        | true => rw [if_pos ((comT_iff _ _).1 hc)]; exact expr_cmp_ok n s ins fol x w k7 hop p0 p1 hc HA
        | false => rw [if_neg (fun h => by rw [(comT_iff _ _).2 h] at hc; cases hc)]; exact expr_cmp_com n s ins fol x w k7 hop p0 p1 hc HA
  by_cases k8 : x.kind = 8
  · cases hop : opOk 8 x.op with
    | false =>
      have e : bindR (n + 1) s.rows (fol && !ins) x = .error 7 := by
        unfold bindR
        rw [k8, hop]
        rfl
      rw [e]
      exact expr_ari_op (n + 1) s ins fol x w k8 hop
    | true =>
      have hf : foldK x.kind = false := by rw [k8]; rfl
      have e := bindR_args (n := n) (rows := s.rows) (fo := fol && !ins) (x := x) (m := 2) (by rw [hf]; exact fun h => absurd h.1 (by decide)) (by rw [k8]; rfl) (by rw [k8]; exact hop) k1 k2
      have HA := args_ih ih 2 ins fol hS hX hM
      rw [hf, Bool.not_false, Bool.and_true] at e
      rw [e]
      clear e
      cases hA : argsR n s.rows (fol && !ins) 2 x with
      | error er => rw [hA] at HA; exact expr_ari_args n s ins fol x w k8 hop er HA
      | ok ps =>
        rw [hA] at HA
        obtain ⟨p0, p1, rfl⟩ := ps2 (argsR_len hA)
        dsimp only
        rw [k8]
        show Calls _ _ _ _ (ExprO (n + 1) w (match (if (p0.ty = 0 ∨ p1.ty = 0 ∨ p0.ty = p1.ty) ∧ likeT (max p0.ty p1.ty) [1, 2] then Except.ok (max p0.ty p1.ty) else Except.error (70 : Int)) with | .error e => .error e | .ok t => .ok (Nd.mk 8 x.op zeroV 0 false t [p0, p1])))
        cases hc : comT p0.ty p1.ty with
        | true =>
          cases hl : likeT (max p0.ty p1.ty) [1, 2] with
          | true => rw [if_pos ⟨(comT_iff _ _).1 hc, rfl⟩]; exact expr_ari_ok n s ins fol x w k8 hop p0 p1 hc hl HA
          | false => rw [if_neg (fun h => absurd h.2 (by decide))]; exact expr_ari_like n s ins fol x w k8 hop p0 p1 hc hl HA
        | false => rw [if_neg (fun h => by rw [(comT_iff _ _).2 h.1] at hc; cases hc)]; exact expr_ari_com n s ins fol x w k8 hop p0 p1 hc HA
  by_cases k9 : x.kind = 9
  · have hf : foldK x.kind = false := by rw [k9]; rfl
    have e := bindR_args (n := n) (rows := s.rows) (fo := fol && !ins) (x := x) (m := 1) (by rw [hf]; exact fun h => absurd h.1 (by decide)) (by rw [k9]; rfl) (by rw [k9]; rfl) k1 k2
    have HA := args_ih ih 1 ins fol hS hX hM
    rw [hf, Bool.not_false, Bool.and_true] at e
    rw [e]
    clear e
    cases hA : argsR n s.rows (fol && !ins) 1 x with
    | error er => rw [hA] at HA; exact expr_nul_args n s ins fol x w k9 er HA
    | ok ps =>
      rw [hA] at HA
      obtain ⟨p0, rfl⟩ := ps1 (argsR_len hA)
      dsimp only
      rw [k9]
      exact expr_nul_ok n s ins fol x w k9 p0 HA
  by_cases k10 : x.kind = 10
  · have hf : foldK x.kind = true := by rw [k10]; rfl
    have hno : (fol && !ins) = false → bindR (n + 1) s.rows (fol && !ins) x = .error 132 := fun h => by
      unfold bindR
      rw [if_pos ⟨hf, h⟩]
    cases ins with
    | true =>
      rw [hno (by cases fol <;> rfl)]
      cases fol with
      | true => exact expr_sub10 (n + 1) s true true x w k10 _ fun W _ => fold_noc (n + 1) s x W
      | false => exact expr_sub10 (n + 1) s true false x w k10 _ fun W _ => fold_nob (n + 1) s x W
    | false =>
      cases fol with
      | false => rw [hno rfl]; exact expr_sub10 (n + 1) s false false x w k10 _ fun W _ => fold_noa (n + 1) s x W
      | true =>
        have e := bindR_args (n := n) (rows := s.rows) (fo := true && !false) (x := x) (m := 0) (fun h => absurd h.2 (by decide)) (by rw [k10]; rfl) (by rw [k10]; rfl) k1 k2
        have HA := fun W hB => args_ih ih 0 true true (hS.keep hB) (hX.keep hB) hM W (Below.refl _ _)
        rw [hf] at e
        rw [e]
        clear e
        have HA2 : ∀ W, Below w.heap.size w W → ∀ V, Below W.heap.size W V → Calls Tryz.prog 41 #[scV s true true, exV x, .int .i64 0] V (ArgsO n V (argsR n s.rows false 0 x)) := fun W hB V hV => HA V (hB.trans (hV.mono hB.size))
        clear HA
        show Calls _ _ _ _ (ExprO (n + 1) w (match argsR n s.rows false 0 x with | .error e => .error e | .ok ps => match typeR x.kind (ps.map Nd.ty) with | .error e => .error e | .ok t => .ok (.mk x.kind (if x.kind = 7 ∨ x.kind = 8 then x.op else ⟨#[]⟩) zeroV 0 (if x.kind = 9 then x.neg else false) t ps)))
        cases hA : argsR n s.rows false 0 x with
        | error er => exact expr_sub10 (n + 1) s false true x w k10 _ fun W hB => fold10_args n s x W k10 er (by rw [hA] at HA2; exact HA2 W hB)
        | ok ps =>
          obtain rfl : ps = [] := List.length_eq_zero_iff.1 (argsR_len hA)
          dsimp only
          rw [k10]
          exact expr_sub10 (n + 1) s false true x w k10 _ fun W hB => fold10_ok n s x W k10 (by rw [hA] at HA2; exact HA2 W hB)
  by_cases k11 : x.kind = 11
  · have hf : foldK x.kind = true := by rw [k11]; rfl
    have hno : (fol && !ins) = false → bindR (n + 1) s.rows (fol && !ins) x = .error 132 := fun h => by
      unfold bindR
      rw [if_pos ⟨hf, h⟩]
    cases ins with
    | true =>
      rw [hno (by cases fol <;> rfl)]
      cases fol with
      | true => exact expr_sub11 (n + 1) s true true x w k11 _ fun W _ => fold_noc (n + 1) s x W
      | false => exact expr_sub11 (n + 1) s true false x w k11 _ fun W _ => fold_nob (n + 1) s x W
    | false =>
      cases fol with
      | false => rw [hno rfl]; exact expr_sub11 (n + 1) s false false x w k11 _ fun W _ => fold_noa (n + 1) s x W
      | true =>
        have e := bindR_args (n := n) (rows := s.rows) (fo := true && !false) (x := x) (m := 1) (fun h => absurd h.2 (by decide)) (by rw [k11]; rfl) (by rw [k11]; rfl) k1 k2
        have HA := fun W hB => args_ih ih 1 true true (hS.keep hB) (hX.keep hB) hM W (Below.refl _ _)
        rw [hf] at e
        rw [e]
        clear e
        have HA2 : ∀ W, Below w.heap.size w W → ∀ V, Below W.heap.size W V → Calls Tryz.prog 41 #[scV s true true, exV x, .int .i64 1] V (ArgsO n V (argsR n s.rows false 1 x)) := fun W hB V hV => HA V (hB.trans (hV.mono hB.size))
        clear HA
        show Calls _ _ _ _ (ExprO (n + 1) w (match argsR n s.rows false 1 x with | .error e => .error e | .ok ps => match typeR x.kind (ps.map Nd.ty) with | .error e => .error e | .ok t => .ok (.mk x.kind (if x.kind = 7 ∨ x.kind = 8 then x.op else ⟨#[]⟩) zeroV 0 (if x.kind = 9 then x.neg else false) t ps)))
        cases hA : argsR n s.rows false 1 x with
        | error er => exact expr_sub11 (n + 1) s false true x w k11 _ fun W hB => fold11_args n s x W k11 er (by rw [hA] at HA2; exact HA2 W hB)
        | ok ps =>
          obtain ⟨p0, rfl⟩ := ps1 (argsR_len hA)
          dsimp only
          rw [k11]
          show Calls _ _ _ _ (ExprO (n + 1) w (match (if likeT p0.ty [1] then Except.ok 1 else Except.error (70 : Int)) with | .error e => .error e | .ok t => .ok (Nd.mk 11 ⟨#[]⟩ zeroV 0 false t [p0])))
          cases hl : likeT p0.ty [1] with
          | true => exact expr_sub11 (n + 1) s false true x w k11 _ fun W hB => fold11_ok n s x W k11 p0 hl (by rw [hA] at HA2; exact HA2 W hB)
          | false => exact expr_sub11 (n + 1) s false true x w k11 _ fun W hB => fold11_ty n s x W k11 p0 hl (by rw [hA] at HA2; exact HA2 W hB)
  by_cases k12 : x.kind = 12
  · have hf : foldK x.kind = true := by rw [k12]; rfl
    have hno : (fol && !ins) = false → bindR (n + 1) s.rows (fol && !ins) x = .error 132 := fun h => by
      unfold bindR
      rw [if_pos ⟨hf, h⟩]
    cases ins with
    | true =>
      rw [hno (by cases fol <;> rfl)]
      cases fol with
      | true => exact expr_sub12 (n + 1) s true true x w k12 _ fun W _ => fold_noc (n + 1) s x W
      | false => exact expr_sub12 (n + 1) s true false x w k12 _ fun W _ => fold_nob (n + 1) s x W
    | false =>
      cases fol with
      | false => rw [hno rfl]; exact expr_sub12 (n + 1) s false false x w k12 _ fun W _ => fold_noa (n + 1) s x W
      | true =>
        have e := bindR_args (n := n) (rows := s.rows) (fo := true && !false) (x := x) (m := 1) (fun h => absurd h.2 (by decide)) (by rw [k12]; rfl) (by rw [k12]; rfl) k1 k2
        have HA := fun W hB => args_ih ih 1 true true (hS.keep hB) (hX.keep hB) hM W (Below.refl _ _)
        rw [hf] at e
        rw [e]
        clear e
        have HA2 : ∀ W, Below w.heap.size w W → ∀ V, Below W.heap.size W V → Calls Tryz.prog 41 #[scV s true true, exV x, .int .i64 1] V (ArgsO n V (argsR n s.rows false 1 x)) := fun W hB V hV => HA V (hB.trans (hV.mono hB.size))
        clear HA
        show Calls _ _ _ _ (ExprO (n + 1) w (match argsR n s.rows false 1 x with | .error e => .error e | .ok ps => match typeR x.kind (ps.map Nd.ty) with | .error e => .error e | .ok t => .ok (.mk x.kind (if x.kind = 7 ∨ x.kind = 8 then x.op else ⟨#[]⟩) zeroV 0 (if x.kind = 9 then x.neg else false) t ps)))
        cases hA : argsR n s.rows false 1 x with
        | error er => exact expr_sub12 (n + 1) s false true x w k12 _ fun W hB => fold12_args n s x W k12 er (by rw [hA] at HA2; exact HA2 W hB)
        | ok ps =>
          obtain ⟨p0, rfl⟩ := ps1 (argsR_len hA)
          dsimp only
          rw [k12]
          show Calls _ _ _ _ (ExprO (n + 1) w (match (if likeT p0.ty [1, 2, 3] then Except.ok p0.ty else Except.error (70 : Int)) with | .error e => .error e | .ok t => .ok (Nd.mk 12 ⟨#[]⟩ zeroV 0 false t [p0])))
          cases hl : likeT p0.ty [1, 2, 3] with
          | true => exact expr_sub12 (n + 1) s false true x w k12 _ fun W hB => fold12_ok n s x W k12 p0 hl (by rw [hA] at HA2; exact HA2 W hB)
          | false => exact expr_sub12 (n + 1) s false true x w k12 _ fun W hB => fold12_ty n s x W k12 p0 hl (by rw [hA] at HA2; exact HA2 W hB)
  by_cases k13 : x.kind = 13
  · have hf : foldK x.kind = true := by rw [k13]; rfl
    have hno : (fol && !ins) = false → bindR (n + 1) s.rows (fol && !ins) x = .error 132 := fun h => by
      unfold bindR
      rw [if_pos ⟨hf, h⟩]
    cases ins with
    | true =>
      rw [hno (by cases fol <;> rfl)]
      cases fol with
      | true => exact expr_sub13 (n + 1) s true true x w k13 _ fun W _ => fold_noc (n + 1) s x W
      | false => exact expr_sub13 (n + 1) s true false x w k13 _ fun W _ => fold_nob (n + 1) s x W
    | false =>
      cases fol with
      | false => rw [hno rfl]; exact expr_sub13 (n + 1) s false false x w k13 _ fun W _ => fold_noa (n + 1) s x W
      | true =>
        have e := bindR_args (n := n) (rows := s.rows) (fo := true && !false) (x := x) (m := 1) (fun h => absurd h.2 (by decide)) (by rw [k13]; rfl) (by rw [k13]; rfl) k1 k2
        have HA := fun W hB => args_ih ih 1 true true (hS.keep hB) (hX.keep hB) hM W (Below.refl _ _)
        rw [hf] at e
        rw [e]
        clear e
        have HA2 : ∀ W, Below w.heap.size w W → ∀ V, Below W.heap.size W V → Calls Tryz.prog 41 #[scV s true true, exV x, .int .i64 1] V (ArgsO n V (argsR n s.rows false 1 x)) := fun W hB V hV => HA V (hB.trans (hV.mono hB.size))
        clear HA
        show Calls _ _ _ _ (ExprO (n + 1) w (match argsR n s.rows false 1 x with | .error e => .error e | .ok ps => match typeR x.kind (ps.map Nd.ty) with | .error e => .error e | .ok t => .ok (.mk x.kind (if x.kind = 7 ∨ x.kind = 8 then x.op else ⟨#[]⟩) zeroV 0 (if x.kind = 9 then x.neg else false) t ps)))
        cases hA : argsR n s.rows false 1 x with
        | error er => exact expr_sub13 (n + 1) s false true x w k13 _ fun W hB => fold13_args n s x W k13 er (by rw [hA] at HA2; exact HA2 W hB)
        | ok ps =>
          obtain ⟨p0, rfl⟩ := ps1 (argsR_len hA)
          dsimp only
          rw [k13]
          show Calls _ _ _ _ (ExprO (n + 1) w (match (if likeT p0.ty [1, 2, 3] then Except.ok p0.ty else Except.error (70 : Int)) with | .error e => .error e | .ok t => .ok (Nd.mk 13 ⟨#[]⟩ zeroV 0 false t [p0])))
          cases hl : likeT p0.ty [1, 2, 3] with
          | true => exact expr_sub13 (n + 1) s false true x w k13 _ fun W hB => fold13_ok n s x W k13 p0 hl (by rw [hA] at HA2; exact HA2 W hB)
          | false => exact expr_sub13 (n + 1) s false true x w k13 _ fun W hB => fold13_ty n s x W k13 p0 hl (by rw [hA] at HA2; exact HA2 W hB)
  have ha : arity x.kind = none := by
    unfold arity
    rw [if_neg (by omega), if_neg (by omega), if_neg (by omega)]
  have hf : foldK x.kind = false := by
    unfold foldK
    rw [Bool.and_eq_false_iff, decide_eq_false_iff_not, decide_eq_false_iff_not]
    omega
  have e : bindR (n + 1) s.rows (fol && !ins) x = .error 7 := by
    unfold bindR
    rw [if_neg (by rw [hf]; exact fun h => absurd h.1 (by decide)), ha]
  rw [e]
  exact expr_none (n + 1) s ins fol x w ha
theorem expr_any {s : Sc} (hm : s.rows.length ≤ 1000) : ∀ n, ExprIH n s
  | 0 => fun _ _ _ _ _ h => h.elim
  | n + 1 => expr_step (expr_any hm n) hm
end Go.Proofs.YthdmfaepjemopaaGreatDoor
namespace Go.Proofs.YthdmfaepjemopaaGreatDoor
open Go.RowKit

theorem step_many (T E K B : Nat) (z : Value) (hT : Tryz.prog.underlying T = some (.slice E)) (hI : (Tryz.prog.info? E).map (fun i => (i.zero, i.size, i.bytes)) = some (some z, K, B)) (hzK : z.cells.size = K) (hK0 : 0 < K) (hB : B ≤ 1000)
    (w : World) {ops : Array Oper} {o : Oper} {a : Act} {R : Act → World → Prop} {Q : Exit → Act → World → Prop} {X : Prop} (hgd : o.guard = none) (s x : Operand)
    (ho : o.op = .call { callee := .builtin .append, args := #[s, x], argTypes := #[T, T] }) (base : Nat) (v : Value) (n : Nat) (xs : List Value) (hv : a.eval s = v) (hown : w.ownsRow base E K v n xs)
    (g : Nat) (m c : Nat) (us : List Value) (hus : us.length = m * K) (hone : us.all Value.oneCell' = true) (hx : a.eval x = .slice (some ⟨g, 0, none⟩) m c) (hq : ∀ (j : Nat) (u : Value), us[j]? = some u → w.cell? ⟨g, j, none⟩ = some u) (hl : n + m ≤ 100000) (hbase : base ≤ w.heap.size)
    (h : ∀ v' w', w'.ownsRow base E K v' (n + m) (xs ++ us) → w.grownBy w' v.ownBlock → (v'.ownBlock = v.ownBlock ∨ v'.ownBlock = some w.heap.size) → R (a.put o.dst v') w') :
    if Region.wanted o (yielded ops a.tmps) = true then Oper.wp Tryz.prog o a w R Q else X := by
  have hw : Region.wanted o (yielded ops a.tmps) = true := by simp [Region.wanted, hgd]
  rw [if_pos hw]
  obtain ⟨i0, hi0, hz0, hz1, hz2⟩ := info_parts hI
  obtain ⟨v', w', hrun, g2, g3, _, g5⟩ := run_append_own_at (P := Tryz.prog) w base T o.type E i0 z K B hT hi0 hz0 hz1 hz2 hzK hK0 v n xs hown ⟨g, 0, none⟩ m c us hus
    (fun j u hj => by rw [Addr.add_lit, Nat.zero_add]; exact hq j u hj)
    (fun u hu => List.all_eq_true.1 hone u hu) (by unfold maxLen; omega) (Nat.le_trans (Nat.mul_le_mul (show n + m ≤ 100000 by omega) hB) (by omega)) hbase
  unfold Oper.wp
  simp only [execOp, ho, resolve, invoke, builtin, Sem.run_bind, Sem.run_pure, Result.andThen_ok, List.map_toArray, List.map_cons, List.map_nil, hv, hx, hrun]
  exact h v' w' g2 g3 g5
theorem list_many (T E K B : Nat) (z : Value) (hT : Tryz.prog.underlying T = some (.slice E)) (hI : (Tryz.prog.info? E).map (fun i => (i.zero, i.size, i.bytes)) = some (some z, K, B)) (hzK : z.cells.size = K) (hK0 : 0 < K) (hB : B ≤ 1000)
    (w : World) {ops : Array Oper} {rest : List Oper} {o : Oper} {a : Act} {Q : Exit → Act → World → Prop} (hgd : o.guard = none) (s x : Operand)
    (ho : o.op = .call { callee := .builtin .append, args := #[s, x], argTypes := #[T, T] }) (base : Nat) (v : Value) (n : Nat) (xs : List Value) (hv : a.eval s = v) (hown : w.ownsRow base E K v n xs)
    (g : Nat) (m c : Nat) (us : List Value) (hus : us.length = m * K) (hone : us.all Value.oneCell' = true) (hx : a.eval x = .slice (some ⟨g, 0, none⟩) m c) (hq : ∀ (j : Nat) (u : Value), us[j]? = some u → w.cell? ⟨g, j, none⟩ = some u) (hl : n + m ≤ 100000) (hbase : base ≤ w.heap.size)
    (h : ∀ v' w', w'.ownsRow base E K v' (n + m) (xs ++ us) → w.grownBy w' v.ownBlock → (v'.ownBlock = v.ownBlock ∨ v'.ownBlock = some w.heap.size) → wpList Tryz.prog ops Q rest (a.put o.dst v') w') : wpList Tryz.prog ops Q (o :: rest) a w := by
  refine wpList_plain hgd fun R hR => ?_
  obtain ⟨i0, hi0, hz0, hz1, hz2⟩ := info_parts hI
  obtain ⟨v', w', hrun, g2, g3, _, g5⟩ := run_append_own_at (P := Tryz.prog) w base T o.type E i0 z K B hT hi0 hz0 hz1 hz2 hzK hK0 v n xs hown ⟨g, 0, none⟩ m c us hus
    (fun j u hj => by rw [Addr.add_lit, Nat.zero_add]; exact hq j u hj)
    (fun u hu => List.all_eq_true.1 hone u hu) (by unfold maxLen; omega) (Nat.le_trans (Nat.mul_le_mul (show n + m ≤ 100000 by omega) hB) (by omega)) hbase
  unfold Oper.wp
  simp only [execOp, ho, resolve, invoke, builtin, Sem.run_bind, Sem.run_pure, Result.andThen_ok, List.map_toArray, List.map_cons, List.map_nil, hv, hx, hrun]
  exact hR _ _ (h v' w' g2 g3 g5)
theorem own_take {w : World} {base e K n : Nat} {v : Value} {xs : List Value} (h : w.ownsRow base e K v n xs) (hn : 0 < n) : ∃ g c, v = .slice (some ⟨g, 0, none⟩) n c ∧ base ≤ g ∧ g < w.heap.size ∧ ∀ (j : Nat) (u : Value), xs[j]? = some u → w.cell? ⟨g, j, none⟩ = some u := by
  rcases h.2 with ⟨_, h0⟩ | ⟨g, cap, cur, e1, e2, e3, _, _, _, e4⟩
  · omega
  · refine ⟨g, cap, e1, e2, heap_lt e3, fun j u hu => ?_⟩
    rw [cell_of_row w g _ _ _ _ e3]
    rw [← e4] at hu
    have hlt := (List.getElem?_eq_some_iff.1 hu).1
    rw [List.length_take] at hlt
    rw [List.getElem?_take_of_lt (by omega)] at hu
    simpa using hu
theorem NdAt.up {cl : Vl → Vl} {ok : Nat → Prop} {W : World} : ∀ {n : Nat} {v : List Value} {p : Nd}, NdAt cl ok W n v p → NdAt cl ok W (n + 1) v p
  | 0, _, _, h => h.elim
  | _ + 1, _, _, ⟨A, c, vs, h1, h2, h3, h4, h5⟩ => ⟨A, c, vs, h1, h2, h3, h4, fun i x q hx hq => (h5 i x q hx hq).up⟩
def partsR : Nat → Nd → List Nd
  | 0, p => [p]
  | n + 1, p => if p.kind = 5 then (match p.args with
    | [a, b] => partsR n a ++ partsR n b
    | _ => [p]) else [p]
def AndTwo : Nat → Nd → Prop
  | 0, _ => True
  | n + 1, p => (p.kind = 5 → p.args.length = 2) ∧ ∀ a ∈ p.args, AndTwo n a
theorem partsR_pos : ∀ (n : Nat) (p : Nd), 0 < (partsR n p).length
  | 0, _ => by unfold partsR; exact Nat.zero_lt_one
  | n + 1, p => by
    unfold partsR
    split
    · split
      · rename_i a b _
        have := partsR_pos n a
        rw [List.length_append]
        omega
      · exact Nat.zero_lt_one
    · exact Nat.zero_lt_one
def PartsO (ok : Nat → Prop) (n : Nat) (ps : List Nd) (w : World) (e : Ending) (w' : World) : Prop := Below w.heap.size w w' ∧ ∃ (v : Value) (vs : List (List Value)), e = .returned v ∧ w'.ownsRow w.heap.size 54 10 v vs.length vs.flatten ∧ (∀ x ∈ vs, x.length = 10 ∧ x.all Value.oneCell' = true) ∧ NdsAt clP (fun b => ok b ∧ b < w.heap.size) w' n vs ps
theorem flat_len {K : Nat} {ls : List (List Value)} (h : ∀ x ∈ ls, x.length = K) : ls.flatten.length = ls.length * K := by
  induction ls with
  | nil => simp
  | cons x ls ih => rw [List.flatten_cons, List.length_append, h x (by simp), ih (fun y hy => h y (by simp [hy])), List.length_cons, Nat.succ_mul]; omega
theorem flat_one {ls : List (List Value)} (h : ∀ x ∈ ls, x.all Value.oneCell' = true) : ls.flatten.all Value.oneCell' = true := by
  rw [List.all_eq_true]
  intro u hu
  obtain ⟨x, hx, h1⟩ := List.mem_flatten.1 hu
  exact List.all_eq_true.1 (h x hx) u h1
theorem ndL_one (p : Nd) (v : Vl) (A : Option Addr) (n c : Nat) : (ndL p v A n c).all Value.oneCell' = true := rfl
theorem sx21 {W : World} {g ab ao : Nat} {n0 n1 n2 n3 n4 n5 n6 n7 n8 : Value} {c : Nat} (hb : W.heap[g]? = some (.cells #[n0, n1, n2, n3, n4, n5, n6, n7, n8, .slice (some ⟨ab, ao, none⟩) 2 c] 54))
    {x0 x1 x2 x3 x4 x5 x6 x7 x8 x9 y0 y1 y2 y3 y4 y5 y6 y7 y8 y9 : Value} (hc : CellsAt W 10 (some ⟨ab, ao, none⟩) [[x0, x1, x2, x3, x4, x5, x6, x7, x8, x9], [y0, y1, y2, y3, y4, y5, y6, y7, y8, y9]]) :
    W.cell? ⟨g, 9, none⟩ = some (.slice (some ⟨ab, ao, none⟩) 2 c) ∧ W.cell? ⟨ab, ao, none⟩ = some x0 ∧ W.cell? ⟨ab, ao + 1, none⟩ = some x1 ∧ W.cell? ⟨ab, ao + 2, none⟩ = some x2 ∧ W.cell? ⟨ab, ao + 3, none⟩ = some x3 ∧ W.cell? ⟨ab, ao + 4, none⟩ = some x4 ∧ W.cell? ⟨ab, ao + 5, none⟩ = some x5 ∧ W.cell? ⟨ab, ao + 6, none⟩ = some x6 ∧ W.cell? ⟨ab, ao + 7, none⟩ = some x7 ∧ W.cell? ⟨ab, ao + 8, none⟩ = some x8 ∧ W.cell? ⟨ab, ao + 9, none⟩ = some x9 ∧
    W.cell? ⟨ab, ao + 10, none⟩ = some y0 ∧ W.cell? ⟨ab, ao + 10 + 1, none⟩ = some y1 ∧ W.cell? ⟨ab, ao + 10 + 2, none⟩ = some y2 ∧ W.cell? ⟨ab, ao + 10 + 3, none⟩ = some y3 ∧ W.cell? ⟨ab, ao + 10 + 4, none⟩ = some y4 ∧ W.cell? ⟨ab, ao + 10 + 5, none⟩ = some y5 ∧ W.cell? ⟨ab, ao + 10 + 6, none⟩ = some y6 ∧ W.cell? ⟨ab, ao + 10 + 7, none⟩ = some y7 ∧ W.cell? ⟨ab, ao + 10 + 8, none⟩ = some y8 ∧ W.cell? ⟨ab, ao + 10 + 9, none⟩ = some y9 := by
  rcases hc.2 with h0 | ⟨b, off, h1, _, h3⟩
  · cases h0
  · cases h1
    have h0 := (h3 0 _ rfl).2
    have h1 := (h3 1 _ rfl).2
    exact ⟨cell_of_row _ _ 9 _ _ _ hb, h0 0 _ rfl, h0 1 _ rfl, h0 2 _ rfl, h0 3 _ rfl, h0 4 _ rfl, h0 5 _ rfl, h0 6 _ rfl, h0 7 _ rfl, h0 8 _ rfl, h0 9 _ rfl, h1 0 _ rfl, h1 1 _ rfl, h1 2 _ rfl, h1 3 _ rfl, h1 4 _ rfl, h1 5 _ rfl, h1 6 _ rfl, h1 7 _ rfl, h1 8 _ rfl, h1 9 _ rfl⟩
set_option maxRecDepth 100000 in
set_option maxHeartbeats 16000000 in
theorem parts_one (ok : Nat → Prop) (n : Nat) (p : Nd) (A : Option Addr) (q c : Nat) (w : World) (hN : NdAt clP ok w n (ndL p (clP p.lit) A q c) p) (hk : p.kind ≠ 5) : Calls Tryz.prog 64 #[ndV p (clP p.lit) A q c] w (PartsO ok n [p] w) := by
  have HN := Lib.hid (show NdAt clP (fun b => ok b ∧ b < w.heap.size) w n (ndL p (clP p.lit) A q c) p from hN.mono fun b h1 h2 => ⟨h1, h2⟩)
  clear hN
  unfold ndV
  obtain ⟨v, hv⟩ : ∃ v, v = clP p.lit := ⟨_, rfl⟩
  rw [← hv] at HN ⊢
  clear hv
  obtain ⟨vk, vn, vf, vs⟩ := v
  obtain ⟨k, hk2⟩ : ∃ k, k = p.kind := ⟨_, rfl⟩
  obtain ⟨po, hpo⟩ : ∃ k, k = p.op := ⟨_, rfl⟩
  obtain ⟨pp, hpp⟩ : ∃ k, k = p.pos := ⟨_, rfl⟩
  obtain ⟨pn, hpn⟩ : ∃ k, k = p.neg := ⟨_, rfl⟩
  obtain ⟨pt, hpt⟩ : ∃ k, k = p.ty := ⟨_, rfl⟩
  have HR := Lib.hid (show ndL p ⟨vk, vn, vf, vs⟩ A q c = [.int .i64 k, .string po, .int .i64 vk, .int .i64 vn, .float .f64 vf, .string vs, .int .i64 pp, .bool pn, .int .i64 pt, .slice A q c] by rw [hk2, hpo, hpp, hpn, hpt]; rfl)
  rw [← hk2] at hk
  rw [← hk2, ← hpo, ← hpp, ← hpn, ← hpt]
  clear hk2 hpo hpp hpn hpt
  have k5 : (k == 5) = false := beq_eq_false_iff_ne.2 hk
  dsimp only
  clear hk
  have sf := store_float
  go_enter Tryz.func64, Tryz.ntmps64
  go_wp2_with fail
  go_ret
  refine ⟨by go_grown, _, [ndL p ⟨vk, vn, vf, vs⟩ A q c], rfl, ?_, ?_, rfl, fun i x y hx hy => ?_⟩
  · rw [HR.out]
    refine ⟨rfl, Or.inr ⟨_, 1, _, rfl, by simp, alloc_at2 _ _ _ (by simp), ?_, ?_, ?_, ?_⟩⟩
    · show 1 ≤ 1; omega
    · unfold maxLen; omega
    · rfl
    · rfl
  · intro x hx
    obtain rfl : x = ndL p ⟨vk, vn, vf, vs⟩ A q c := by simpa using hx
    exact ⟨rfl, ndL_one _ _ _ _ _⟩
  · have hi : i = 0 := by have := (List.getElem?_eq_some_iff.1 hx).1; simpa using this
    subst hi
    cases hx
    cases hy
    exact HN.out.keep (by go_grown)
theorem nds_two {cl : Vl → Vl} {ok : Nat → Prop} {W : World} {n : Nat} {p : Nd} {A : Option Addr} {q c : Nat} {a b : Nd} (h : NdAt cl ok W (n + 1) (ndL p (cl p.lit) A q c) p) (hp : p.args = [a, b]) : ∃ (ab ao : Nat) (A0 A1 : Option Addr) (q0 c0 q1 c1 : Nat), q = 2 ∧ A = some ⟨ab, ao, none⟩ ∧ ok ab ∧ CellsAt W 10 (some ⟨ab, ao, none⟩) [ndL a (cl a.lit) A0 q0 c0, ndL b (cl b.lit) A1 q1 c1] ∧ NdAt cl ok W n (ndL a (cl a.lit) A0 q0 c0) a ∧ NdAt cl ok W n (ndL b (cl b.lit) A1 q1 c1) b := by
  obtain ⟨A', c', vs, e, hC, hO, hl, hE⟩ := h
  rw [hp] at hl hE
  obtain ⟨x, y, rfl⟩ : ∃ x y, vs = [x, y] := by
    match vs, hl with
    | [x, y], _ => exact ⟨x, y, rfl⟩
  have e9 := congrArg (fun l => l[9]?) e
  have e9 : some (Value.slice A q c) = some (Value.slice A' 2 c') := e9
  injection e9 with e9
  injection e9 with e1 e2 e3
  subst e1 e2 e3
  have h0 := hE 0 x a rfl rfl
  have h1 := hE 1 y b rfl rfl
  cases n with
  | zero => exact h0.elim
  | succ n =>
    obtain ⟨A0, c0, v0, r0, rest0⟩ := h0
    obtain ⟨A1, c1, v1, r1, rest1⟩ := h1
    subst r0 r1
    rcases hC.2 with h0 | ⟨ab, ao, h1, _, _⟩
    · cases h0
    · subst h1
      exact ⟨ab, ao, A0, A1, v0.length, c0, v1.length, c1, rfl, rfl, hO (by simp) _ rfl, hC, ⟨A0, c0, v0, rfl, rest0⟩, ⟨A1, c1, v1, rfl, rest1⟩⟩
structure P2 (w : World) (ab ao : Nat) (bx : Array Value) (ls : List (List Value)) (W : World) : Prop where
  below : Below w.heap.size w W
  box : W.heap[w.heap.size]? = some (.cells bx 54)
  cells : CellsAt W 10 (some ⟨ab, ao, none⟩) ls
  low : ls ≠ [] → ab < w.heap.size
theorem P2.start {w : World} {ab ao : Nat} {bx : Array Value} {ls : List (List Value)} (h : CellsAt w 10 (some ⟨ab, ao, none⟩) ls) : P2 w ab ao bx ls ((w.alloc (.cells bx 54)).drew) :=
  ⟨(below1 w _).drew, heap_alloc_new w _, CellsAt.keep (below1 w _).drew h, fun hl => h.block hl _ rfl⟩
theorem P2.keep {w : World} {ab ao : Nat} {bx : Array Value} {ls : List (List Value)} {W W' : World} (h : P2 w ab ao bx ls W) (hB : Below W.heap.size W W') : P2 w ab ao bx ls W' :=
  ⟨h.below.trans (hB.mono h.below.size), (hB.block _ (heap_lt h.box)).trans h.box, CellsAt.keep hB h.cells, h.low⟩
theorem P2.app {w : World} {ab ao : Nat} {bx : Array Value} {ls : List (List Value)} {W W' : World} (h : P2 w ab ao bx ls W) {r : Option Nat} (hg : W.grownBy W' r) {base : Nat} (hb : base = w.heap.size + 1) (hr : ∀ b, r = some b → base ≤ b ∧ b < W.heap.size) : P2 w ab ao bx ls W' :=
  ⟨h.below.grown hg (Nat.le_of_lt (heap_lt h.box)) (fun b e => by have := (hr b e).1; omega), (hg.block _ (heap_lt h.box) (fun e => by have := (hr _ e.symm).1; omega)).trans h.box, h.cells.grown hg (fun hl a ha e => by
    have h1 := h.low hl
    have h2 := hr a.block e.symm
    cases ha
    have := h2.1
    dsimp only at this
    omega), h.low⟩
theorem own_low {w : World} {base base' e K n : Nat} {v : Value} {xs : List Value} (h : w.ownsRow base e K v n xs) (hb : base' ≤ base) : w.ownsRow base' e K v n xs :=
  ⟨h.1, h.2.imp id fun ⟨g, cap, cur, e1, e2, e3⟩ => ⟨g, cap, cur, e1, Nat.le_trans hb e2, e3⟩⟩
theorem NdsAt.up {cl : Vl → Vl} {ok : Nat → Prop} {W : World} {n : Nat} {vs : List (List Value)} {ps : List Nd} (h : NdsAt cl ok W n vs ps) : NdsAt cl ok W (n + 1) vs ps := ⟨h.1, fun i x q hx hq => (h.2 i x q hx hq).up⟩
theorem NdsAt.app {cl : Vl → Vl} {ok : Nat → Prop} {W : World} {n : Nat} {vs us : List (List Value)} {ps qs : List Nd} (h : NdsAt cl ok W n vs ps) (h' : NdsAt cl ok W n us qs) : NdsAt cl ok W n (vs ++ us) (ps ++ qs) := by
  refine ⟨by rw [List.length_append, List.length_append, h.1, h'.1], fun i x q hx hq => ?_⟩
  by_cases hi : i < vs.length
  · rw [List.getElem?_append_left hi] at hx
    rw [List.getElem?_append_left (by rw [← h.1]; exact hi)] at hq
    exact h.2 i x q hx hq
  · rw [List.getElem?_append_right (by omega)] at hx
    rw [List.getElem?_append_right (by rw [← h.1]; omega), ← h.1] at hq
    exact h'.2 _ x q hx hq
set_option maxRecDepth 100000 in
set_option maxHeartbeats 16000000 in
theorem parts_two (ok : Nat → Prop) (n : Nat) (p a b : Nd) (A : Option Addr) (q c : Nat) (w : World) (hN : NdAt clP ok w (n + 1) (ndL p (clP p.lit) A q c) p) (hk : p.kind = 5) (hp : p.args = [a, b]) (ra rb : List Nd) (hra : 0 < rb.length) (hrl : ra.length + rb.length ≤ 1000)
    (HA : ∀ ok A q c W, Below w.heap.size w W → NdAt clP ok W n (ndL a (clP a.lit) A q c) a → Calls Tryz.prog 64 #[ndV a (clP a.lit) A q c] W (PartsO ok n ra W))
    (HB : ∀ ok A q c W, Below w.heap.size w W → NdAt clP ok W n (ndL b (clP b.lit) A q c) b → Calls Tryz.prog 64 #[ndV b (clP b.lit) A q c] W (PartsO ok n rb W)) :
    Calls Tryz.prog 64 #[ndV p (clP p.lit) A q c] w (PartsO ok (n + 1) (ra ++ rb) w) := by
  obtain ⟨ab, ao, A0, A1, q0, c0, q1, c1, rfl, rfl, hok, hC, hNa, hNb⟩ := nds_two hN hp
  have HCA := Lib.hid (HA (fun b => ok b ∧ b < w.heap.size) A0 q0 c0)
  have HCB := Lib.hid (HB (fun b => ok b ∧ b < w.heap.size) A1 q1 c1)
  have HNA := Lib.hid (hNa.mono (ok' := fun b => ok b ∧ b < w.heap.size) fun b h1 h2 => ⟨h1, h2⟩)
  have HNB := Lib.hid (hNb.mono (ok' := fun b => ok b ∧ b < w.heap.size) fun b h1 h2 => ⟨h1, h2⟩)
  have HC := Lib.hid hC
  have HRL := Lib.hid hrl
  have HRA := Lib.hid hra
  clear HA HB hNa hNb hN hp hok hra hrl
  unfold ndL at HC
  unfold ndV at HCA HCB ⊢
  rw [hk]
  clear hk hC
  generalize clP p.lit = v
  obtain ⟨vk, vn, vf, vs⟩ := v
  generalize clP a.lit = va at HCA HNA HC
  obtain ⟨ak, an, af, az⟩ := va
  generalize clP b.lit = vb at HCB HNB HC
  obtain ⟨bk, bn, bf, bz⟩ := vb
  generalize p.op = po
  generalize p.pos = pp
  generalize p.neg = pn
  generalize p.ty = pt
  dsimp only at HC HCA HCB ⊢
  obtain ⟨bx, hbx⟩ : ∃ r : Array Value, r = #[.int .i64 5, .string po, .int .i64 vk, .int .i64 vn, .float .f64 vf, .string vs, .int .i64 pp, .bool pn, .int .i64 pt, .slice (some ⟨ab, ao, none⟩) 2 c] := ⟨_, rfl⟩
  have HP := Lib.hid (show P2 w ab ao bx _ ((w.alloc (.cells #[.int .i64 5, .string po, .int .i64 vk, .int .i64 vn, .float .f64 vf, .string vs, .int .i64 pp, .bool pn, .int .i64 pt, .slice (some ⟨ab, ao, none⟩) 2 c] 54)).drew) from by rw [hbx]; exact P2.start HC.out)
  rw [hbx] at HP
  clear hbx HC
  have HA0 := Lib.hid (HNA.out.keep HP.out.below)
  clear HNA
  have sf := store_float
  go_enter Tryz.func64, Tryz.ntmps64
  go_upto_region 3 with (fail)
  go_region_held3 (fun wx => wx.cell? ⟨w.heap.size, 9, none⟩ = some (.slice (some ⟨ab, ao, none⟩) 2 c) ∧ wx.cell? ⟨ab, ao, none⟩ = some (.int .i64 a.kind) ∧ wx.cell? ⟨ab, ao + 1, none⟩ = some (.string a.op) ∧ wx.cell? ⟨ab, ao + 2, none⟩ = some (.int .i64 ak) ∧ wx.cell? ⟨ab, ao + 3, none⟩ = some (.int .i64 an) ∧ wx.cell? ⟨ab, ao + 4, none⟩ = some (.float .f64 af) ∧ wx.cell? ⟨ab, ao + 5, none⟩ = some (.string az) ∧ wx.cell? ⟨ab, ao + 6, none⟩ = some (.int .i64 a.pos) ∧ wx.cell? ⟨ab, ao + 7, none⟩ = some (.bool a.neg) ∧ wx.cell? ⟨ab, ao + 8, none⟩ = some (.int .i64 a.ty) ∧ wx.cell? ⟨ab, ao + 9, none⟩ = some (.slice A0 q0 c0) ∧
    wx.cell? ⟨ab, ao + 10, none⟩ = some (.int .i64 b.kind) ∧ wx.cell? ⟨ab, ao + 10 + 1, none⟩ = some (.string b.op) ∧ wx.cell? ⟨ab, ao + 10 + 2, none⟩ = some (.int .i64 bk) ∧ wx.cell? ⟨ab, ao + 10 + 3, none⟩ = some (.int .i64 bn) ∧ wx.cell? ⟨ab, ao + 10 + 4, none⟩ = some (.float .f64 bf) ∧ wx.cell? ⟨ab, ao + 10 + 5, none⟩ = some (.string bz) ∧ wx.cell? ⟨ab, ao + 10 + 6, none⟩ = some (.int .i64 b.pos) ∧ wx.cell? ⟨ab, ao + 10 + 7, none⟩ = some (.bool b.neg) ∧ wx.cell? ⟨ab, ao + 10 + 8, none⟩ = some (.int .i64 b.ty) ∧ wx.cell? ⟨ab, ao + 10 + 9, none⟩ = some (.slice A1 q1 c1))
    (first
      | (with_reducible exact sx21 HP.out.box HP.out.cells)
      | (with_reducible exact sx21 HP5.out.box HP5.out.cells)
      | (with_reducible exact sx21 HP6.out.box HP6.out.cells)
      | (with_reducible exact sx21 HP7.out.box HP7.out.cells)
      | fail)
    (first
      | (go_at_call 64; first
         | (with_reducible refine (HCB.out _ HP5.out.below HB5.out).mono ?_
            rintro e w6 ⟨hB6, v6, vs6, rfl, hO6, hL6, hN6⟩
            have HP6 := Lib.hid (HP5.out.keep hB6)
            have HR6 := Lib.hid (own_kept HR5.out.1 hB6 (Nat.le_refl _))
            have HN56 := Lib.hid (HR5.out.2.2.keep hB6)
            have HSZ6 := Lib.hid hB6.size
            obtain ⟨g6, k6, rfl, hg6, hg6l, hc6⟩ := own_take hO6 (by rw [hN6.1]; exact HRA.out)
            have HR66 := Lib.hid (And.intro hL6 (And.intro hN6 hc6))
            have HG6 := Lib.hid (And.intro hg6 hg6l)
            clear hB6 hO6 hL6 hN6 hg6 hg6l hc6)
         | (with_reducible refine (HCA.out _ HP.out.below HA0.out).mono ?_
            rintro e w5 ⟨hB5, v5, vs5, rfl, hO5, hL5, hN5⟩
            have HP5 := Lib.hid (HP.out.keep hB5)
            have HB5 := Lib.hid (HNB.out.keep HP5.out.below)
            have HR5 := Lib.hid (And.intro hO5 (And.intro hL5 hN5))
            have HSZ5 := Lib.hid hB5.size
            clear hB5 hO5 hL5 hN5))
      | (refine step_many 45 54 10 112 nodeZ Tryz.underlying45 info54 rfl (by omega) (by omega) w6 (by rfl) (.tmp 12) (.tmp 17) (by rfl) _ _ vs5.length vs5.flatten (by rfl) HR6.out g6 vs6.length k6 vs6.flatten (flat_len (fun x hx => (HR66.out.1 x hx).1)) (flat_one (fun x hx => (HR66.out.1 x hx).2)) (by rfl) HR66.out.2.2 (by have h5 := HR5.out.2.2.1; have h6 := HR66.out.2.1.1; have := HRL.out; omega) (by have := HSZ5.out; have := HSZ6.out; omega) ?_
         intro v7 w7 hown hgr hv7
         have HP7 := Lib.hid (HP6.out.app hgr (by simp) (own_base HR6.out))
         have HO7 := Lib.hid (And.intro hown (And.intro hgr hv7))
         clear hown hgr hv7)
      | fail)
  go_wp2_with fail
  go_ret
  have hb5 := own_base HR6.out
  have k5 : NdsAt clP (fun b => ok b ∧ b < w.heap.size) w7 n vs5 ra := (HN56.out.grown (HO7.out.2.1) (fun b hb e => by have e1 := (hb5 b e.symm).1; have e2 := hb.1.2; simp at e1; omega)).mono fun b h1 _ => h1.1
  have k6 : NdsAt clP (fun b => ok b ∧ b < w.heap.size) w7 n vs6 rb := (HR66.out.2.1.grown (HO7.out.2.1) (fun b hb e => by have e1 := (hb5 b e.symm).1; have e2 := hb.1.2; simp at e1; omega)).mono fun b h1 _ => h1.1
  refine ⟨HP7.out.below, v7, vs5 ++ vs6, rfl, ?_, ?_, (k5.app k6).up⟩
  · rw [List.length_append, List.flatten_append]
    exact own_low HO7.out.1 (by simp)
  · intro x hx
    rcases List.mem_append.1 hx with h | h
    · exact HR5.out.2.1 x h
    · exact HR66.out.1 x h
theorem parts_any : ∀ (n : Nat) (ok : Nat → Prop) (p : Nd) (A : Option Addr) (q c : Nat) (w : World), NdAt clP ok w n (ndL p (clP p.lit) A q c) p → AndTwo n p → (partsR n p).length ≤ 1000 → Calls Tryz.prog 64 #[ndV p (clP p.lit) A q c] w (PartsO ok n (partsR n p) w)
  | 0, _, _, _, _, _, _, h, _, _ => h.elim
  | n + 1, ok, p, A, q, c, w, hN, hT, hl => by
    by_cases hk : p.kind = 5
    · obtain ⟨a, b, hp⟩ := ps2 (hT.1 hk)
      have e : partsR (n + 1) p = partsR n a ++ partsR n b := by
        unfold partsR
        rw [if_pos hk, hp]
        cases n <;> rfl
      rw [e] at hl ⊢
      rw [List.length_append] at hl
      have ha := hT.2 a (by rw [hp]; simp)
      have hb := hT.2 b (by rw [hp]; simp)
      exact parts_two ok n p a b A q c w hN hk hp _ _ (partsR_pos n b) (by omega) (fun ok' A q c W _ h => parts_any n ok' a A q c W h ha (by omega)) (fun ok' A q c W _ h => parts_any n ok' b A q c W h hb (by omega))
    · have e : partsR (n + 1) p = [p] := by
        unfold partsR
        rw [if_neg hk]
      rw [e]
      exact parts_one ok (n + 1) p A q c w hN hk
end Go.Proofs.YthdmfaepjemopaaGreatDoor
