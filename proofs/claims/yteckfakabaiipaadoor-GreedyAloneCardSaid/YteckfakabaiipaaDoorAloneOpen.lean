/- The statement GreedyAlone's walk, from what the card gives. -/
import Derived.Test.YteckfakabaiipaaDoorAlone
import Derived.Test.YteckfakabaiipaaDoorFitsOpen
namespace Go.Proofs.YteckfakabaiipaaDoor
open Go.RowKit

set_option maxRecDepth 100000 in
set_option maxHeartbeats 1000000 in
theorem alone_else (a ao at2 : Option Addr) (n c no co nt ct : Nat) (budget m k base sz : Int) (w : World) (hs : smallB n no nt = false ∨ wrongB budget m k = true) (hT : TabIn w) :
    Calls Tryd.prog 5 #[caseV a ao at2 n c no co nt ct budget m k base, .int .u8 sz] w (RetV (.bool true) w) := by
  have KK := CaseKept.start w (.slice a n c) (.slice ao no co) (.slice at2 nt ct) budget m k base
  by_cases hs1 : smallB n no nt = false
  all_goals first
    | (have hs2 : smallB n no nt = true := by simpa using hs1)
    | skip
  all_goals first
    | (have hw : wrongB budget m k = true := hs.resolve_left hs1)
    | skip
  all_goals
    clear hs
    go_enter Tryd.func5, Tryd.ntmps5
    go_wp2_with (first
      | (go_at_call 7; (with_reducible refine (lives_any _ ?_).mono ?_); exact hT.keep KK.below; rintro e w1 ⟨rfl, hB⟩; have KK := KK.call hB; clear hB; (try clear e0 e1 e2 e3 e4 e5 e6 l0 hbb); have KKc := KK; obtain ⟨e0, e1, e2, e3, e4, e5, e6, l0, hbb⟩ := KKc)
      | (go_at_call 8; (with_reducible refine (fits_case a ao at2 n c no co nt ct budget m k base _).mono ?_); rintro e w1 ⟨rfl, hB⟩; have KK := KK.call hB; clear hB; (try clear e0 e1 e2 e3 e4 e5 e6 l0 hbb); have KKc := KK; obtain ⟨e0, e1, e2, e3, e4, e5, e6, l0, hbb⟩ := KKc)
      | (go_at_call 11; (with_reducible refine (wrong_any a ao at2 n c no co nt ct budget m k base _).mono ?_); rintro e w1 ⟨rfl, hB⟩; have KK := KK.call hB; clear hB; (try clear e0 e1 e2 e3 e4 e5 e6 l0 hbb); have KKc := KK; obtain ⟨e0, e1, e2, e3, e4, e5, e6, l0, hbb⟩ := KKc))
    go_ret
    exact ⟨rfl, KK.below⟩

theorem alone_any (a ao at2 : Option Addr) (n c no co nt ct : Nat) (budget m k base sz : Int) (off : List Int) (w : World) (hbud : budget ≤ 9223372036854775807) (hk1 : k ≤ 9223372036854775807) (hsz : 0 ≤ sz ∧ sz ≤ 255)
    (ho : ShortsAt w ao no off) (hT : TabIn w) :
    Calls Tryd.prog 5 #[caseV a ao at2 n c no co nt ct budget m k base, .int .u8 sz] w (RetV (.bool true) w) := by
  by_cases hs : smallB n no nt = false ∨ wrongB budget m k = true
  · exact alone_else a ao at2 n c no co nt ct budget m k base sz w hs hT
  · simp only [not_or, Bool.not_eq_false, Bool.not_eq_true] at hs
    obtain ⟨h1, h2⟩ := hs
    have g1 := h1
    have g2 := h2
    unfold smallB at g1
    unfold wrongB at g2
    simp only [Bool.and_eq_true, decide_eq_true_eq] at g1
    simp only [Bool.or_eq_false_iff, decide_eq_false_iff_not] at g2
    exact alone_main a ao at2 n c no co nt ct budget m k base sz off w (by omega) (by omega) h1 h2 (by omega) (by omega) (by omega) hk1 (by omega) hbud hsz ho hT
theorem wf_u8 {x : Int} (h : (Lit.int .u8 x).wf = true) : 0 ≤ x ∧ x ≤ 255 := by
  simp [Lit.wf, IntKind.min, IntKind.max, IntKind.signed, IntKind.bits] at h; omega
theorem alone_open {H : Type} {enc : TypeId × Value → H} {W : World} {b0 : Nat} {v1 : Value} {d1 : DataW H} {p1 : List MemPlace}
    (k1 : Value.okWide Tryd.prog W .any b0 25 v1) (h1 : DataW.Trod enc Tryd.prog W 0 (fun _ => true) true 25 v1 d1 p1) (sz : Int) (ws : (Lit.int .u8 sz).wf = true) (hL : laidMetH Tryd.prog Rows.greedyAloneRow.laid W) :
    Calls Tryd.prog 5 #[v1, .int .u8 sz] W (RetV (.bool true) W) := by
  obtain ⟨aa, ao, at2, n, c, no, co, nt, ct, budget, m, k, base, zs, off, two, rfl, r0, r5, r6, l0, l5, l6, w1, w2, w3, w4⟩ := case_open k1 h1
  exact alone_any aa ao at2 n c no co nt ct budget m k base sz off W (wf_i64 w1).2 (wf_i64 w3).2 (wf_u8 ws) r5.shorts (table_in hL)
end Go.Proofs.YteckfakabaiipaaDoor
