/- From the card's laid variables to what the walks ask; a value, opened: what a parameter reads as. -/
import Derived.Test.YtoafiombpokpaaaGreatDoorLawW
import Derived.LaidMore
import Derived.ChangeArms
import Derived.ChangeBears2
import Derived.ChangeSlices
import Derived.WideShapes
import Derived.OpenShut
import Derived.MakeChecks
import Derived.Lib.LaidTab
namespace Go.Proofs.YtoafiombpokpaaaGreatDoor
open Go.RowKit Go.ChangeShapes Go.WideShapes

/-- one listed variable's reading -/
def ReadsAs (w : World) (n : String) (d : DataW Unit) : Prop :=
  ∃ g t cs fuel p, Tryz.prog.globalNamed n = some g ∧ (Tryz.prog.globals[g]?).map (·.type) = some t ∧ w.var? Tryz.prog n = some cs ∧ DataW.trod (fun _ => ()) Tryz.prog w 0 (fun _ => true) false fuel t cs.toList = some (d, p)
theorem vars_read {w : World} : ∀ {l : List (String × DataW Unit)} {ps : List MemPlace}, DataW.LaidVars Tryz.prog w l ps → ∀ n d, (n, d) ∈ l → ReadsAs w n d
  | [], _, _, _, _, hm => by cases hm
  | (n', d') :: r, ps, h, n, d, hm => by
    obtain ⟨g, t, cs, fuel, p, q, h1, h2, h3, h4, h5, _⟩ := h
    rcases List.mem_cons.1 hm with e | e
    · cases e
      exact ⟨g, t, cs, fuel, p, h1, h2, h3, h4⟩
    · exact vars_read h5 n d e
theorem wf_u64 {x : Int} (h : (Lit.int .u64 x).wf = true) : 0 ≤ x ∧ x < 18446744073709551616 := by
  simp [Lit.wf, IntKind.min, IntKind.max, IntKind.signed, IntKind.bits] at h; omega
set_option maxRecDepth 100000 in
theorem pow_cells {w : World} {cs : Array Value} {fuel : Nat} {x : DataW Unit × List MemPlace} (h : DataW.trod (fun _ => ()) Tryz.prog w 0 (fun _ => true) false fuel 144 cs.toList = some x) (k : Nat) (hk : k < 1392) : ∃ n : Nat, n < 18446744073709551616 ∧ cs[k]? = some (.int .u64 (n : Int)) := by
  obtain ⟨xs, m, rfl, _, hl, hx, hall⟩ := DataW.trod_array Tryz.underlying144 h
  have hi := hall (k / 2) (by omega)
  rw [show Tryz.prog.cellsOf 143 = 2 by kernel_rfl] at hi
  have hxl : k / 2 < xs.length := by omega
  rw [List.getElem?_eq_getElem hxl] at hi
  obtain ⟨ys, m2, _, _, hl2, hy, hfs⟩ := DataW.trod_struct Tryz.underlying143 hi
  have hy : ys.length = 2 := hy
  match ys, hy with
  | [y0, y1], _ =>
    have g0 : DataW.trod (fun _ => ()) Tryz.prog w 0 (fun _ => true) false m2 55 ((((cs.toList.drop (k / 2 * 2)).take 2).drop 0).take (Tryz.prog.cellsOf 55)) = some y0 := hfs 0 _ rfl
    have g1 : DataW.trod (fun _ => ()) Tryz.prog w 0 (fun _ => true) false m2 55 ((((cs.toList.drop (k / 2 * 2)).take 2).drop 1).take (Tryz.prog.cellsOf 55)) = some y1 := hfs 1 _ rfl
    rw [show Tryz.prog.cellsOf 55 = 1 by kernel_rfl] at g0 g1
    obtain ⟨a, e0, _, w0⟩ := DataW.trod_int Tryz.underlying55 g0
    obtain ⟨b, e1, _, w1⟩ := DataW.trod_int Tryz.underlying55 g1
    have b0 := wf_u64 w0
    have b1 := wf_u64 w1
    rcases Nat.mod_two_eq_zero_or_one k with hm | hm
    · refine ⟨a.toNat, by omega, ?_⟩
      have e2 := congrArg (·[0]?) e0
      simp [List.getElem?_drop] at e2
      rw [show k = k / 2 * 2 by omega, e2]
      congr 2
      omega
    · refine ⟨b.toNat, by omega, ?_⟩
      have e2 := congrArg (·[0]?) e1
      simp [List.getElem?_drop] at e2
      rw [show k = k / 2 * 2 + 1 by omega, e2]
      congr 2
      omega
set_option maxRecDepth 100000 in
theorem lawh_of {W : World} (hsh : W.ShapedOpen Tryz.prog) (h : laidMet Tryz.prog Rows.valueWritesRow.laid W) : ∃ P, LawH P W := by
  obtain ⟨_, hv, _⟩ := h
  have hr := fun n d hm => vars_read hv n d hm
  obtain ⟨g, t, cs, fuel, p, h1, h2, h3, h4⟩ := hr "internal/strconv.pow10Tab" Rows.laid_internal_strconv_pow10Tab (by simp [Rows.valueWritesRow])
  obtain rfl : 8 = g := Option.some.inj ((show Tryz.prog.globalNamed "internal/strconv.pow10Tab" = some 8 by kernel_rfl).symm.trans h1)
  obtain rfl : 144 = t := Option.some.inj ((show (Tryz.prog.globals[8]?).map (·.type) = some 144 by kernel_rfl).symm.trans h2)
  have hp := pow_cells h4
  have hPw : ∀ k, ∃ n : Nat, n < 18446744073709551616 ∧ (k < 1392 → cs[k]? = some (.int .u64 (n : Int))) := fun k => by
    by_cases hk : k < 1392
    · obtain ⟨n, h5, h6⟩ := hp k hk
      exact ⟨n, h5, fun _ => h6⟩
    · exact ⟨0, by omega, fun h => absurd h hk⟩
  obtain ⟨P, hP⟩ := Classical.axiomOfChoice hPw
  have hpow : PowAt P W := fun k hk => by rw [World.var?_cell h1 h3 k]; exact (hP k).2 hk
  refine ⟨P, fun k => (hP k).1, hpow, ?_, ?_, World.block_lt_of_cell? W _ (hpow 0 (by omega))⟩
  · obtain ⟨g, t, cs, fuel, p, h1, h2, h3, h4⟩ := hr "internal/strconv.uint64pow10" Rows.laid_internal_strconv_uint64pow10 (by simp [Rows.valueWritesRow])
    obtain rfl : 1 = g := Option.some.inj ((show Tryz.prog.globalNamed "internal/strconv.uint64pow10" = some 1 by kernel_rfl).symm.trans h1)
    obtain rfl : 88 = t := Option.some.inj ((show (Tryz.prog.globals[1]?).map (·.type) = some 88 by kernel_rfl).symm.trans h2)
    have e : (Rows.laid_internal_strconv_uint64pow10 : DataW Unit) = Lib.tabData .u64 Lib.pow10Tab := by rfl
    rw [e] at h4
    unfold Lib.TabIs
    rw [h3, ← Lib.cells_of_tab Tryz.underlying88 Tryz.underlying55 (by kernel_rfl) (by kernel_rfl) h4]
  · exact Go.Proofs.cell_of_shapedOpen_int (zero := #[.int .i64 0]) (t := 3) hsh (of_decide_eq_true (by kernel_rfl)) (by kernel_rfl) rfl (by kernel_rfl) (by kernel_rfl) Tryz.underlying3

theorem csz2 : Tryz.prog.cellsOf 2 = 1 := by kernel_rfl
theorem csz3 : Tryz.prog.cellsOf 3 = 1 := by kernel_rfl
theorem csz9 : Tryz.prog.cellsOf 9 = 1 := by kernel_rfl
theorem csz22 : Tryz.prog.cellsOf 22 = 1 := by kernel_rfl
theorem csz24 : Tryz.prog.cellsOf 24 = 4 := by kernel_rfl
theorem wf_i64 {x : Int} (h : (Lit.int .i64 x).wf = true) : -9223372036854775808 ≤ x ∧ x ≤ 9223372036854775807 := by
  simp [Lit.wf, IntKind.min, IntKind.max, IntKind.signed, IntKind.bits] at h; omega
theorem trod_float {P : Program} {t : TypeId} {k : FloatKind} {H : Type} {enc : TypeId × Value → H} {w : World} {base : Nat} {sp : Nat → Bool} {held : Bool} {fuel : Nat} {cs : List Value} {x : DataW H × List MemPlace}
    (ht : P.underlying t = some (.float k)) (h : DataW.trod enc P w base sp held fuel t cs = some x) : ∃ n, cs = [.float k n] ∧ x = (.lit (.float k n), []) ∧ (Lit.float k n).wf = true := by
  cases fuel with
  | zero => simp [DataW.trod] at h
  | succ n =>
    unfold DataW.trod at h
    rw [ht] at h
    split at h <;> simp_all
theorem wf_f64 {n : Nat} (h : (Lit.float .f64 n).wf = true) : n < 18446744073709551616 := by
  simp [Lit.wf] at h
  exact h
set_option maxRecDepth 100000 in
theorem value_open {H : Type} {enc : TypeId × Value → H} {W : World} {b0 : Nat} {v : Value} {d : DataW H} {p : List MemPlace}
    (k1 : Value.okWide Tryz.prog W .any b0 24 v) (h1 : DataW.Trod enc Tryz.prog W 0 (fun _ => true) true 24 v d p) :
    ∃ (k n : Int) (f : Nat) (s : ByteArray), v = vV k n f s ∧ -9223372036854775808 ≤ n ∧ n ≤ 9223372036854775807 ∧ f < 18446744073709551616 := by
  obtain ⟨cs, rfl, hsz⟩ := okWide_struct Tryz.underlying24 k1
  obtain ⟨fuel, hf⟩ := h1
  rw [csz24] at hsz
  obtain ⟨l⟩ := cs
  obtain ⟨xs, n, _, _, hl, hlen, hfs⟩ := DataW.trod_struct Tryz.underlying24 hf
  have hl4 : l.length = 4 := hsz
  match l, hl4 with
  | [c0, c1, c2, c3], _ =>
    match xs, hlen with
    | [x0, x1, x2, x3], _ =>
      have g0 : DataW.trod enc Tryz.prog W 0 (fun _ => true) true n 3 (([c0, c1, c2, c3].drop 0).take (Tryz.prog.cellsOf 3)) = some x0 := hfs 0 _ rfl
      rw [csz3] at g0
      have g1 : DataW.trod enc Tryz.prog W 0 (fun _ => true) true n 2 (([c0, c1, c2, c3].drop 1).take (Tryz.prog.cellsOf 2)) = some x1 := hfs 1 _ rfl
      rw [csz2] at g1
      have g2 : DataW.trod enc Tryz.prog W 0 (fun _ => true) true n 22 (([c0, c1, c2, c3].drop 2).take (Tryz.prog.cellsOf 22)) = some x2 := hfs 2 _ rfl
      rw [csz22] at g2
      have g3 : DataW.trod enc Tryz.prog W 0 (fun _ => true) true n 9 (([c0, c1, c2, c3].drop 3).take (Tryz.prog.cellsOf 9)) = some x3 := hfs 3 _ rfl
      rw [csz9] at g3
      obtain ⟨k, e0, _, w0⟩ := DataW.trod_int Tryz.underlying3 g0
      obtain ⟨m, e1, _, w1⟩ := DataW.trod_int Tryz.underlying2 g1
      obtain ⟨f, e2, _, w2⟩ := trod_float Tryz.underlying22 g2
      obtain ⟨s, e3, _, _⟩ := DataW.trod_string Tryz.underlying9 g3
      cases (show [c0] = [_] from e0)
      cases (show [c1] = [_] from e1)
      cases (show [c2] = [_] from e2)
      cases (show [c3] = [_] from e3)
      exact ⟨k, m, f, s, rfl, (wf_i64 w1).1, (wf_i64 w1).2, wf_f64 w2⟩
set_option maxRecDepth 100000 in
theorem writes_open {H : Type} {enc : TypeId × Value → H} {W : World} {b0 : Nat} {v : Value} {d : DataW H} {p : List MemPlace}
    (k1 : Value.okWide Tryz.prog W .any b0 24 v) (h1 : DataW.Trod enc Tryz.prog W 0 (fun _ => true) true 24 v d p) (hsh : W.ShapedOpen Tryz.prog) (hL : laidMet Tryz.prog Rows.valueWritesRow.laid W) :
    Calls Tryz.prog 3 #[v] W (RetT W) := by
  obtain ⟨k, n, f, s, rfl, h2, h3, h4⟩ := value_open k1 h1
  obtain ⟨P, hP⟩ := lawh_of hsh hL
  exact law_any P k n f s W hP h4 h2 h3
end Go.Proofs.YtoafiombpokpaaaGreatDoor
