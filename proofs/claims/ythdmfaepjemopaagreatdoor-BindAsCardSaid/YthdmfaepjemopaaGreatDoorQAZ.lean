/- The walk of widths: the types of all columns side by side. The walk of sound: each column of a node stands within the row. The walks of the document's Same, SameAll, ints: what is the same is told so. The walk of the document's SameQuery: one query twice is told so. -/
import Derived.Test.YthdmfaepjemopaaGreatDoorQAX
import Derived.Test.YthdmfaepjemopaaGreatDoorQAT
import Derived.Test.YthdmfaepjemopaaGreatDoorQAD
import Derived.Test.YthdmfaepjemopaaGreatDoorQAE
import Derived.Deep.RegionLaw
import Derived.Test.YthdmfaepjemopaaGreatDoorQAR
namespace Go.Proofs.YthdmfaepjemopaaGreatDoor
open Go.RowKit
structure WR (w : World) (r0 r1 : Array Value) (v : Value) (l : List Int) (W : World) : Prop where
  below : Below w.heap.size w W
  sb : W.heap[w.heap.size]? = some (.cells r0 25)
  qb : W.heap[w.heap.size + 1]? = some (.cells r1 48)
  own : W.ownsRow (w.heap.size + 2) 3 1 v l.length (l.map (Value.int .i64))
theorem WR.keep {w : World} {r0 r1 : Array Value} {v : Value} {l : List Int} {W W' : World} (h : WR w r0 r1 v l W) (hB : Below W.heap.size W W') : WR w r0 r1 v l W' :=
  ⟨h.below.trans (hB.mono h.below.size), (hB.block _ (heap_lt h.sb)).trans h.sb, (hB.block _ (heap_lt h.qb)).trans h.qb, own_kept h.own hB (Nat.le_refl _)⟩
theorem WR.more {w : World} {r0 r1 : Array Value} {v : Value} {l : List Int} {W W' : World} (h : WR w r0 r1 v l W) (z : Int) {v' : Value} (hown : W'.ownsRow (w.heap.size + 2) 3 1 v' (l.length + 1) (l.map (Value.int .i64) ++ [.int .i64 z])) (hg : W.grownBy W' v.ownBlock) : WR w r0 r1 v' (l ++ [z]) W' := by
  have hb := own_base h.own
  have hq := heap_lt h.qb
  refine ⟨h.below.grown hg (by have := h.below.size; omega) (fun b e => by have := (hb b e).1; omega), (hg.block _ (heap_lt h.sb) (fun e => by have := (hb _ e.symm).1; omega)).trans h.sb, (hg.block _ hq (fun e => by have := (hb _ e.symm).1; omega)).trans h.qb, ?_⟩
  rw [List.length_append, List.map_append]
  exact hown
theorem types_snoc {cl : List Col} {c : Nat} {k : Col} (h : cl[c]? = some k) : (cl.take (c + 1)).map Col.ty = (cl.take c).map Col.ty ++ [k.ty] := by
  rw [List.take_add_one, h, Option.toList_some, List.map_append]
  rfl
theorem tyR_snoc {ts : List (Tab × List Col)} {tl : List Int} {j kk : Nat} {t : Tab × List Col} (h : tl[j]? = some (kk : Int)) (ht : ts[kk]? = some t) : tyR ts (tl.take (j + 1)) = tyR ts (tl.take j) ++ t.2.map Col.ty := by
  unfold tyR
  rw [List.take_add_one, h, Option.toList_some, List.flatMap_append]
  simp [ht]
theorem tyR_len {ts : List (Tab × List Col)} (hc : ∀ p ∈ ts, p.2.length ≤ 12) : ∀ tl : List Int, (tyR ts tl).length ≤ 12 * tl.length
  | [] => Nat.zero_le _
  | k :: tl => by
    have ih := tyR_len hc tl
    unfold tyR at ih ⊢
    rw [List.flatMap_cons, List.length_append, List.length_cons]
    cases h : ts[k.toNat]? with
    | none => dsimp only; rw [List.length_nil]; omega
    | some t =>
      have := hc t (List.mem_of_getElem? h)
      dsimp only
      rw [List.length_map]
      omega
theorem col_cells {w : World} {A : Option Addr} {l : List Col} (h : ColsAt w A l) {k : Nat} {c : Col} (hk : l[k]? = some c) : ∃ b off, A = some ⟨b, off, none⟩ ∧ b < w.heap.size ∧ ∀ (i : Nat) (v : Value), (colL c)[i]? = some v → w.cell? ⟨b, off + k * 3 + i, none⟩ = some v :=
  setl_at h (by rw [List.getElem?_map, hk]; rfl)
def WidO (T : List Int) (w : World) (e : Ending) (w' : World) : Prop := Below w.heap.size w w' ∧ ∃ B cB, e = .returned (.slice B T.length cB) ∧ IntsAt w' B T
set_option maxRecDepth 100000 in
set_option maxHeartbeats 16000000 in
theorem wid_any (A : Option Addr) (c : Nat) (ia : Option Addr) (il ik : Nat) (ts : List (Tab × List Col)) (tl : List Int) (tA : Option Addr) (tc : Nat) (bA : Option Addr) (bn bc : Nat) (wd : Int) (hA : Option Addr) (hn hc : Nat) (gA : Option Addr) (gn gc : Nat) (gr : Bool) (iA : Option Addr) (i_n ic : Nat) (oA : Option Addr) (on oc : Nat) (lim : Int) (w : World)
    (hD : DeepAt w A ts) (h12 : ∀ p ∈ ts, p.2.length ≤ 12) (hT : IntsAt w tA tl) (h4 : tl.length ≤ 4) (hl : ∀ k ∈ tl, 0 ≤ k ∧ k.toNat < ts.length) :
    Calls Tryz.prog 10 #[.agg #[.slice A ts.length c, .slice ia il ik], .agg #[.slice tA tl.length tc, .slice bA bn bc, .int .i64 wd, .slice hA hn hc, .slice gA gn gc, .bool gr, .slice iA i_n ic, .slice oA on oc, .int .i64 lim]] w (WidO (tyR ts tl) w) := by
  have HD := Lib.hid hD
  have HT := Lib.hid hT
  have HLI := Lib.hid hl
  have HTY := Lib.hid (tyR_len h12)
  have H12 := Lib.hid h12
  obtain ⟨T, hTT⟩ : ∃ T, T = tyR ts tl := ⟨_, rfl⟩
  have HTT := Lib.hid hTT
  rw [← hTT]
  obtain ⟨q, hq⟩ : ∃ q, q = tl.length := ⟨_, rfl⟩
  have HQ := Lib.hid hq
  obtain ⟨m, hm⟩ : ∃ m, m = ts.length := ⟨_, rfl⟩
  have HM := Lib.hid hm
  rw [← hq] at h4 ⊢
  rw [← hm]
  clear hD hT hl hTT hq hm h12
  obtain ⟨r0, hr0⟩ : ∃ r : Array Value, r = #[.slice A m c, .slice ia il ik] := ⟨_, rfl⟩
  obtain ⟨r1, hr1⟩ : ∃ r : Array Value, r = #[.slice tA q tc, .slice bA bn bc, .int .i64 wd, .slice hA hn hc, .slice gA gn gc, .bool gr, .slice iA i_n ic, .slice oA on oc, .int .i64 lim] := ⟨_, rfl⟩
  have HR0 := Lib.hid hr0
  have HST := Lib.hid (show WR w r0 r1 (.slice none 0 0) [] ((w.alloc (.cells #[.slice A m c, .slice ia il ik] 25)).alloc (.cells #[.slice tA q tc, .slice bA bn bc, .int .i64 wd, .slice hA hn hc, .slice gA gn gc, .bool gr, .slice iA i_n ic, .slice oA on oc, .int .i64 lim] 48)) from by
    rw [hr0, hr1]
    refine ⟨(below1 w _).alloc (by simp) _, ?_, alloc_at2 _ _ _ (by simp), World.ownsRow_nil _ _ _ _⟩
    rw [heap_alloc_old _ _ (by simp)]; exact heap_alloc_new w _)
  clear hr0 hr1
  have sf := store_float
  go_enter Tryz.func10, Tryz.ntmps10
  go_wp2_with fail
  go_loopw [5, 13] (fun v i wr => ∃ (j : Nat), j ≤ q ∧ i = .int .i64 j ∧ Hid (WR w r0 r1 v (tyR ts (tl.take j)) wr)) (fun _ i _ => q - (intOf i).toNat)
  case atStart => exact ⟨0, Nat.zero_le _, rfl, HST⟩
  case round =>
    clear HST
    obtain ⟨j, hj, rfl, HA⟩ := hrel
    obtain ⟨wo, rfl⟩ : ∃ wo : World, wo = wr := ⟨_, rfl⟩
    by_cases hjq : j < q
    · have hjn : ((j : Int) < (q : Int)) = True := eq_true (by omega)
      obtain ⟨k, hk⟩ : ∃ k, tl[j]? = some k := ⟨_, List.getElem?_eq_getElem (by have := HQ.out; omega)⟩
      have hkl := HLI.out k (List.mem_of_getElem? hk)
      obtain ⟨kk, rfl⟩ : ∃ kk : Nat, k = (kk : Int) := ⟨k.toNat, by omega⟩
      have hkm : kk < m := by have := HM.out; omega
      obtain ⟨t, ht⟩ : ∃ t, ts[kk]? = some t := ⟨_, List.getElem?_eq_getElem (by have := HM.out; omega)⟩
      have HTS := Lib.hid (tyR_snoc hk ht)
      obtain ⟨nb, no, rfl, hnb, hnc⟩ := int_at HT.out hk
      obtain ⟨tb, tf, rfl, htb, hcells, hcn, hcols⟩ := deep_at HD.out ht
      have H12T := Lib.hid (H12.out t (List.mem_of_getElem? ht))
      obtain ⟨⟨tbn, tca, tcn, tcc, troot, tnext, trows⟩, cl⟩ := t
      dsimp only [tabL] at hcells hcn hcols HTS H12T
      have hsb := HA.out.sb
      rw [HR0.out] at hsb
      have s0 := cell_of_row _ _ 0 _ _ _ hsb
      have n0 := cell_kept hnc HA.out.below
      have t1 := cell_kept (hcells 1 _ rfl) HA.out.below
      have HCN := Lib.hid hcn
      have HCO := Lib.hid (show ColsAt w tca cl from hcols)
      have htcn : tcn ≤ 12 := by have := H12T.out; omega
      clear hk ht hcells hcn hcols hsb
      have HA0 := Lib.hid (show WR w r0 r1 u5 (tyR ts (tl.take j) ++ (cl.take 0).map Col.ty) wo from by rw [List.take_zero]; simpa using HA.out)
      clear HA
      go_wp2_with fail
      go_loopw [5, 24] (fun v i wr => ∃ (d : Nat), d ≤ tcn ∧ i = .int .i64 d ∧ Hid (WR w r0 r1 v (tyR ts (tl.take j) ++ (cl.take d).map Col.ty) wr)) (fun _ i _ => tcn - (intOf i).toNat)
      case atStart => exact ⟨0, Nat.zero_le _, rfl, HA0⟩
      case round =>
        clear HA0 s0 n0 t1
        obtain ⟨d, hd, rfl, HA⟩ := hrel
        obtain ⟨wp, rfl⟩ : ∃ wp : World, wp = wr := ⟨_, rfl⟩
        by_cases hdc : d < tcn
        · have hdn : ((d : Int) < (tcn : Int)) = True := eq_true (by omega)
          obtain ⟨y, hy⟩ : ∃ y, cl[d]? = some y := ⟨_, List.getElem?_eq_getElem (by have := HCN.out; omega)⟩
          have HY := Lib.hid (types_snoc hy)
          obtain ⟨cb, co, rfl, hcb, hcc⟩ := col_cells HCO.out hy
          obtain ⟨yn, yt, ynn⟩ := y
          dsimp only [colL] at hcc HY
          have c0 : wp.cell? ⟨cb, co + d * 3, none⟩ = some (.string yn) := cell_kept (hcc 0 _ rfl) HA.out.below
          have c1 := cell_kept (hcc 1 _ rfl) HA.out.below
          have c2 := cell_kept (hcc 2 _ rfl) HA.out.below
          clear hcc hy
          obtain ⟨L, hL⟩ : ∃ L, L = tyR ts (tl.take j) ++ (cl.take d).map Col.ty := ⟨_, rfl⟩
          have HYL := Lib.hid (show L ++ [yt] = tyR ts (tl.take j) ++ (cl.take (d + 1)).map Col.ty from by rw [hL, HY.out, List.append_assoc])
          have HLN := Lib.hid (show (tyR ts (tl.take j) ++ (cl.take d).map Col.ty).length ≤ 1000 from by
            have := HTY.out (tl.take j)
            have := List.length_take_le j tl
            have := List.length_take_le d cl
            rw [List.length_append, List.length_map]
            have := HQ.out; have := H12T.out
            omega)
          rw [← hL] at HA HLN
          clear hL
          have HB2 := fun O O2 => Lib.hid (HA.out.keep (((below1 wp O).alloc (below1 wp O).size O2)))
          have HZ := Lib.hid (heap_lt HA.out.qb)
          go_wp2_with (first
            | (at_builtin; go_loud (refine list_one 44 3 1 8 (.int .i64 0) Tryz.underlying44 info3 rfl (by omega) (by omega) _ rfl _ _ rfl (w.heap.size + 2) u5 L.length (L.map (Value.int .i64)) rfl (HB2 _ _).out.own _ 1 [.int .i64 yt] rfl rfl rfl (alloc_at2 (wp.alloc _) _ _ (World.size_alloc _ _)) ?c3 ?c4 ?_))
            | fail)
          case c3 => have := HLN.out; omega
          case c4 => have := HZ.out; simp; omega
          intro v8 w8 hown hgr hv8
          have HM2 := Lib.hid ((HB2 _ _).out.more yt hown hgr)
          rw [HYL.out] at HM2
          clear hown hgr hv8
          go_wp2_with fail
          go_roundw
          case rel => exact ⟨d + 1, by omega, by go_num, HM2⟩
          case measure => simp [intOf] <;> omega
        · obtain rfl : d = tcn := by omega
          have hdn : ((d : Int) < (d : Int)) = False := eq_false (by omega)
          have HM2 := HA
          rw [List.take_of_length_le (l := cl) (by have := HCN.out; omega), ← HTS.out] at HM2
          go_wp2_with fail
          go_roundw
          case rel => exact ⟨j + 1, by omega, by go_num, HM2⟩
          case measure => simp [intOf] <;> omega
    · obtain rfl : j = q := by omega
      have hjn : ((j : Int) < (j : Int)) = False := eq_false (by omega)
      have HT2 := HA
      rw [List.take_of_length_le (by have := HQ.out; omega), ← HTT.out] at HT2
      obtain ⟨B, cB, rfl, _, hI, _⟩ := own_ints HT2.out.own rfl
      go_wp2_with fail
      go_ret
      exact ⟨HT2.out.below, B, cB, rfl, hI⟩
end Go.Proofs.YthdmfaepjemopaaGreatDoor
namespace Go.Proofs.YthdmfaepjemopaaGreatDoor
open Go.RowKit

theorem nd_elem {cl : Vl → Vl} {ok : Nat → Prop} {W : World} {n : Nat} {x : List Value} {q : Nd} (h : NdAt cl ok W n x q) : ∃ A m c, x = ndL q (cl q.lit) A m c := by
  cases n with
  | zero => exact h.elim
  | succ n =>
    obtain ⟨A, c, vs, h1, _⟩ := h
    exact ⟨A, vs.length, c, h1⟩
theorem nd_open {cl : Vl → Vl} {ok : Nat → Prop} {W : World} {n : Nat} {p : Nd} {A : Option Addr} {q c : Nat} (h : NdAt cl ok W (n + 1) (ndL p (cl p.lit) A q c) p) : ∃ vs, q = vs.length ∧ CellsAt W 10 A vs ∧ NdsAt cl ok W n vs p.args := by
  obtain ⟨A', c', vs, e, hC, hO, hl, hE⟩ := h
  have e9 := congrArg (fun l => l[9]?) e
  have e9 : some (Value.slice A q c) = some (Value.slice A' vs.length c') := e9
  injection e9 with e9
  injection e9 with e1 e2 e3
  subst e1 e2 e3
  exact ⟨vs, rfl, hC, hl, hE⟩
theorem nd_get {cl : Vl → Vl} {ok : Nat → Prop} {W : World} {n : Nat} {A : Option Addr} {vs : List (List Value)} {ps : List Nd} (hC : CellsAt W 10 A vs) (hN : NdsAt cl ok W n vs ps) {j : Nat} {p : Nd} (hp : ps[j]? = some p) : ∃ (b off : Nat) (A' : Option Addr) (m c : Nat), A = some ⟨b, off, none⟩ ∧ b < W.heap.size ∧ NdAt cl ok W n (ndL p (cl p.lit) A' m c) p ∧ ∀ (i : Nat) (u : Value), (ndL p (cl p.lit) A' m c)[i]? = some u → W.cell? ⟨b, off + j * 10 + i, none⟩ = some u := by
  have hj : j < vs.length := by have := (List.getElem?_eq_some_iff.1 hp).1; rw [hN.1]; exact this
  have hx := List.getElem?_eq_getElem hj
  have h1 := hN.2 j _ p hx hp
  obtain ⟨A', m, c, e⟩ := nd_elem h1
  rw [e] at hx h1
  obtain ⟨b, off, h2, h3, h4⟩ := setl_at hC hx
  exact ⟨b, off, A', m, c, h2, h3, h1, h4⟩
set_option maxRecDepth 100000 in
set_option maxHeartbeats 16000000 in
theorem sound_col (p : Nd) (v : Vl) (A : Option Addr) (q c : Nat) (w : World) (T : List Int) (B : Option Addr) (cB : Nat) (hT : IntsAt w B T) (hk : p.kind = 2) (h0 : 0 ≤ p.pos) (hp : T[p.pos.toNat]? = some p.ty) : Calls Tryz.prog 11 #[ndV p v A q c, .slice B T.length cB] w (RetV (.bool true) w) := by
  unfold ndV
  rw [hk]
  obtain ⟨vk, vn, vf, vs⟩ := v
  obtain ⟨pp, hpp⟩ : ∃ pp : Nat, p.pos = (pp : Int) := ⟨p.pos.toNat, by omega⟩
  rw [hpp] at hp ⊢
  rw [Int.toNat_natCast] at hp
  obtain ⟨tb, tof, rfl, htb, ht⟩ := int_at hT hp
  have hlt : pp < T.length := (List.getElem?_eq_some_iff.1 hp).1
  obtain ⟨m, hm⟩ : ∃ m, m = T.length := ⟨_, rfl⟩
  rw [← hm] at hlt ⊢
  obtain ⟨ty, hty⟩ : ∃ m, m = p.ty := ⟨_, rfl⟩
  rw [← hty] at ht ⊢
  clear hm hp hT hk h0 hpp hty
  dsimp only
  have g1 : ((0 : Int) ≤ (pp : Int)) = True := eq_true (by omega)
  have g2 : ((pp : Int) < (m : Int)) = True := eq_true (by omega)
  have g3 : (ty == ty) = true := beq_self_eq_true _
  have ht1 := fun O => cell_kept ht (below1 w O)
  have sf := store_float
  go_enter Tryz.func11, Tryz.ntmps11
  go_wp2_with fail
  go_quiet ((fail))
  go_wp2_with fail
  go_ret
  exact ⟨rfl, below_drewN (by go_grown) nq⟩
set_option maxRecDepth 100000 in
set_option maxHeartbeats 16000000 in
theorem sound_args (ok : Nat → Prop) (n : Nat) (p : Nd) (v : Vl) (A : Option Addr) (vs : List (List Value)) (c : Nat) (w : World) (T : List Int) (B : Option Addr) (cB : Nat) (hC : CellsAt w 10 A vs) (hN : NdsAt clP ok w n vs p.args) (hk : p.kind ≠ 2) (hs : ∀ a ∈ p.args, soundR T n a = true)
    (HI : ∀ (a : Nd) (A : Option Addr) (q c : Nat) (W : World), Below w.heap.size w W → NdAt clP ok W n (ndL a (clP a.lit) A q c) a → soundR T n a = true → Calls Tryz.prog 11 #[ndV a (clP a.lit) A q c, .slice B T.length cB] W (RetV (.bool true) W)) :
    Calls Tryz.prog 11 #[ndV p v A vs.length c, .slice B T.length cB] w (RetV (.bool true) w) := by
  unfold ndV
  obtain ⟨vk, vn, vf, vs'⟩ := v
  have HC := Lib.hid hC
  have HN := Lib.hid hN
  have HS := Lib.hid hs
  have HH := Lib.hid HI
  obtain ⟨m, hm⟩ : ∃ m, m = T.length := ⟨_, rfl⟩
  rw [← hm] at HH ⊢
  obtain ⟨q, hq⟩ : ∃ m, m = vs.length := ⟨_, rfl⟩
  have HQ := Lib.hid hq
  have hqm : q ≤ 9223372036854775807 := by rw [hq]; exact hC.1
  rw [← hq]
  obtain ⟨l, hl⟩ : ∃ l, l = p.args := ⟨_, rfl⟩
  rw [← hl] at HN HS
  obtain ⟨k, hk2⟩ : ∃ k, k = p.kind := ⟨_, rfl⟩
  obtain ⟨po, hpo⟩ : ∃ k, k = p.op := ⟨_, rfl⟩
  obtain ⟨pp, hpp⟩ : ∃ k, k = p.pos := ⟨_, rfl⟩
  obtain ⟨pn, hpn⟩ : ∃ k, k = p.neg := ⟨_, rfl⟩
  obtain ⟨pt, hpt⟩ : ∃ k, k = p.ty := ⟨_, rfl⟩
  rw [← hk2] at hk
  rw [← hk2, ← hpo, ← hpp, ← hpn, ← hpt]
  clear hm hq hl hk2 hpo hpp hpn hpt hC hN hs HI
  dsimp only
  have k2 : (k == 2) = false := beq_eq_false_iff_ne.2 hk
  clear hk
  have sf := store_float
  go_enter Tryz.func11, Tryz.ntmps11
  go_wp2_with fail
  go_loopw [33] (fun i wr => ∃ (j : Nat), j ≤ q ∧ i = .int .i64 j ∧ Hid (Below w.heap.size w wr)) (fun i _ => q - (intOf i).toNat)
  case atStart => exact ⟨0, Nat.zero_le _, rfl, Lib.hid (below1 w _)⟩
  case round =>
    obtain ⟨j, hj, rfl, HBW⟩ := hrel
    obtain ⟨wo, rfl⟩ : ∃ wo : World, wo = wr := ⟨_, rfl⟩
    by_cases hjq : j < q
    · have hjn : ((j : Int) < (q : Int)) = True := eq_true (by omega)
      obtain ⟨y, hy⟩ : ∃ y, l[j]? = some y := ⟨_, List.getElem?_eq_getElem (by have := HQ.out; have := HN.out.1; omega)⟩
      obtain ⟨eb, eo, A1, m1, c1, rfl, heb, hN1, hyc⟩ := nd_get HC.out HN.out hy
      have t0 : wo.cell? ⟨eb, eo + j * 10, none⟩ = some (.int .i64 y.kind) := cell_kept (hyc 0 _ rfl) HBW.out
      have t1 := cell_kept (hyc 1 _ rfl) HBW.out
      have t2 := cell_kept (hyc 2 _ rfl) HBW.out
      have t3 := cell_kept (hyc 3 _ rfl) HBW.out
      have t4 := cell_kept (hyc 4 _ rfl) HBW.out
      have t5 := cell_kept (hyc 5 _ rfl) HBW.out
      have t6 := cell_kept (hyc 6 _ rfl) HBW.out
      have t7 := cell_kept (hyc 7 _ rfl) HBW.out
      have t8 := cell_kept (hyc 8 _ rfl) HBW.out
      have t9 := cell_kept (hyc 9 _ rfl) HBW.out
      have HSZ := Lib.hid HBW.out.size
      have HCL := Lib.hid (show ∀ O, Calls Tryz.prog 11 #[ndV y (clP y.lit) A1 m1 c1, .slice B m cB] (wo.alloc O) (RetV (.bool true) (wo.alloc O)) from fun O => by
        have hB := HBW.out.trans ((below1 wo O).mono HBW.out.size)
        exact HH.out y A1 m1 c1 _ hB (hN1.keep hB) (HS.out y (List.mem_of_getElem? hy)))
      clear hyc hN1 hy
      go_wp2_with (first
        | (go_at_call 11; (with_reducible refine (HCL.out _).mono ?_); rintro e w5 ⟨rfl, hB5⟩
           have HB5 := Lib.hid (HBW.out.trans (((below1 wo _).trans (hB5.mono (below1 wo _).size)).mono HSZ.out))
           clear hB5)
        | fail)
      go_roundw
      case rel => exact ⟨j + 1, by omega, by go_num, HB5⟩
      case measure => simp [intOf] <;> omega
    · obtain rfl : j = q := by omega
      have hjn : ((j : Int) < (j : Int)) = False := eq_false (by omega)
      go_wp2_with fail
      go_ret
      exact ⟨rfl, HBW.out⟩
theorem sound_any (ok : Nat → Prop) (T : List Int) (B : Option Addr) (cB : Nat) : ∀ (n : Nat) (p : Nd) (A : Option Addr) (q c : Nat) (w : World), NdAt clP ok w n (ndL p (clP p.lit) A q c) p → IntsAt w B T → soundR T n p = true → Calls Tryz.prog 11 #[ndV p (clP p.lit) A q c, .slice B T.length cB] w (RetV (.bool true) w)
  | 0, _, _, _, _, _, h, _, _ => h.elim
  | n + 1, p, A, q, c, w, h, hT, hs => by
    unfold soundR at hs
    by_cases hk : p.kind = 2
    · rw [if_pos hk] at hs
      simp only [Bool.and_eq_true, decide_eq_true_eq, beq_iff_eq] at hs
      exact sound_col p _ A q c w T B cB hT hk hs.1.1 hs.2
    · rw [if_neg hk, List.all_eq_true] at hs
      obtain ⟨vs, rfl, hC, hN⟩ := nd_open h
      exact sound_args ok n p _ A vs c w T B cB hC hN hk hs fun a A q c W hB hN hs => sound_any ok T B cB n a A q c W hN (hT.keep hB) hs
end Go.Proofs.YthdmfaepjemopaaGreatDoor
namespace Go.Proofs.YthdmfaepjemopaaGreatDoor
open Go.RowKit

def vlV (v : Vl) : Value := .agg #[.int .i64 v.k, .int .i64 v.n, .float .f64 v.f, .string v.s]
set_option maxRecDepth 100000 in
set_option maxHeartbeats 16000000 in
theorem same_step (p : Nd) (v v' : Vl) (A : Option Addr) (q c : Nat) (A' : Option Addr) (c' : Nat) (w : World) (HEX : ∀ W, Calls Tryz.prog 50 #[vlV v, vlV v'] W (RetV (.bool true) W)) (HALL : ∀ W, Below w.heap.size w W → Calls Tryz.prog 17 #[.slice A q c, .slice A' q c'] W (RetV (.bool true) W)) :
    Calls Tryz.prog 28 #[ndV p v A q c, ndV p v' A' q c'] w (RetV (.bool true) w) := by
  unfold ndV
  unfold vlV at HEX
  obtain ⟨vk, vn, vf, vs⟩ := v
  obtain ⟨uk, un, uf, us⟩ := v'
  obtain ⟨k, hk⟩ : ∃ k, k = p.kind := ⟨_, rfl⟩
  obtain ⟨po, hpo⟩ : ∃ k, k = p.op := ⟨_, rfl⟩
  obtain ⟨pp, hpp⟩ : ∃ k, k = p.pos := ⟨_, rfl⟩
  obtain ⟨pn, hpn⟩ : ∃ k, k = p.neg := ⟨_, rfl⟩
  obtain ⟨pt, hpt⟩ : ∃ k, k = p.ty := ⟨_, rfl⟩
  rw [← hk, ← hpo, ← hpp, ← hpn, ← hpt]
  dsimp only at HEX ⊢
  have HE := Lib.hid HEX
  have HA := Lib.hid HALL
  clear HEX HALL hk hpo hpp hpn hpt
  have sf := store_float
  go_enter Tryz.func28, Tryz.ntmps28
  go_wp2_with (first
    | (go_at_call 50; (with_reducible refine (HE.out _).mono ?_); rintro e w2 ⟨rfl, hB2⟩
       have HB2 := Lib.hid ((BX.two w _ _).keep hB2)
       have r0 := HB2.out.row0 _ _ rfl
       have r1 := HB2.out.row 1 _ _ rfl
       have x9 := cell_of_row _ _ 9 _ _ _ r0
       have y9 := cell_of_row _ _ 9 _ _ _ r1
       clear hB2 r0 r1)
    | (go_at_call 17; (with_reducible refine (HA.out _ HB2.out.below).mono ?_); rintro e w3 ⟨rfl, hB3⟩
       have HB3 := Lib.hid (HB2.out.keep hB3)
       clear hB3)
    | fail)
  go_ret
  exact ⟨rfl, HB3.out.below⟩
set_option maxRecDepth 100000 in
set_option maxHeartbeats 16000000 in
theorem sameall_step (cl cl' : Vl → Vl) (ok ok' : Nat → Prop) (n : Nat) (ps : List Nd) (A : Option Addr) (vs : List (List Value)) (c : Nat) (A' : Option Addr) (vs' : List (List Value)) (c' : Nat) (w : World) (hC : CellsAt w 10 A vs) (hN : NdsAt cl ok w n vs ps) (hC' : CellsAt w 10 A' vs') (hN' : NdsAt cl' ok' w n vs' ps)
    (HI : ∀ p ∈ ps, ∀ (A : Option Addr) (q c : Nat) (A' : Option Addr) (q' c' : Nat) (W : World), Below w.heap.size w W → NdAt cl ok W n (ndL p (cl p.lit) A q c) p → NdAt cl' ok' W n (ndL p (cl' p.lit) A' q' c') p → Calls Tryz.prog 28 #[ndV p (cl p.lit) A q c, ndV p (cl' p.lit) A' q' c'] W (RetV (.bool true) W)) :
    Calls Tryz.prog 17 #[.slice A ps.length c, .slice A' ps.length c'] w (RetV (.bool true) w) := by
  have HC := Lib.hid hC
  have HN := Lib.hid hN
  have HC' := Lib.hid hC'
  have HN' := Lib.hid hN'
  have HH := Lib.hid HI
  obtain ⟨q, hq⟩ : ∃ m, m = ps.length := ⟨_, rfl⟩
  have HQ := Lib.hid hq
  have hqm : q ≤ 9223372036854775807 := by rw [hq, ← hN.1]; exact hC.1
  rw [← hq]
  clear hC hN hC' hN' HI hq
  have g0 : ((q : Int) != (q : Int)) = false := by simp
  have sf := store_float
  go_enter Tryz.func17, Tryz.ntmps17
  go_wp2_with fail
  go_loopw [5] (fun i wr => ∃ (j : Nat), j ≤ q ∧ i = .int .i64 j ∧ Hid (Below w.heap.size w wr)) (fun i _ => q - (intOf i).toNat)
  case atStart => exact ⟨0, Nat.zero_le _, rfl, Lib.hid (Below.refl _ _)⟩
  case round =>
    obtain ⟨j, hj, rfl, HBW⟩ := hrel
    obtain ⟨wo, rfl⟩ : ∃ wo : World, wo = wr := ⟨_, rfl⟩
    by_cases hjq : j < q
    · have hjn : ((j : Int) < (q : Int)) = True := eq_true (by omega)
      obtain ⟨y, hy⟩ : ∃ y, ps[j]? = some y := ⟨_, List.getElem?_eq_getElem (by have := HQ.out; omega)⟩
      obtain ⟨eb, eo, A1, m1, c1, rfl, heb, hN1, hyc⟩ := nd_get HC.out HN.out hy
      obtain ⟨fb, fo, A2, m2, c2, rfl, hfb, hN2, hzc⟩ := nd_get HC'.out HN'.out hy
      have HCL := Lib.hid (show Calls Tryz.prog 28 #[ndV y (cl y.lit) A1 m1 c1, ndV y (cl' y.lit) A2 m2 c2] wo.drew (RetV (.bool true) wo.drew) from by
        have hB := HBW.out.drew
        exact HH.out y (List.mem_of_getElem? hy) A1 m1 c1 A2 m2 c2 _ hB (hN1.keep hB) (hN2.keep hB))
      obtain ⟨v, hv⟩ : ∃ v, v = cl y.lit := ⟨_, rfl⟩
      obtain ⟨v', hv'⟩ : ∃ v, v = cl' y.lit := ⟨_, rfl⟩
      rw [← hv] at hyc
      rw [← hv'] at hzc
      rw [← hv, ← hv'] at HCL
      have t0 : wo.cell? ⟨eb, eo + j * 10, none⟩ = some (.int .i64 y.kind) := cell_kept (hyc 0 _ rfl) HBW.out
      have t1 := cell_kept (hyc 1 _ rfl) HBW.out
      have t2 := cell_kept (hyc 2 _ rfl) HBW.out
      have t3 := cell_kept (hyc 3 _ rfl) HBW.out
      have t4 := cell_kept (hyc 4 _ rfl) HBW.out
      have t5 := cell_kept (hyc 5 _ rfl) HBW.out
      have t6 := cell_kept (hyc 6 _ rfl) HBW.out
      have t7 := cell_kept (hyc 7 _ rfl) HBW.out
      have t8 := cell_kept (hyc 8 _ rfl) HBW.out
      have t9 := cell_kept (hyc 9 _ rfl) HBW.out
      have z0 : wo.cell? ⟨fb, fo + j * 10, none⟩ = some (.int .i64 y.kind) := cell_kept (hzc 0 _ rfl) HBW.out
      have z1 := cell_kept (hzc 1 _ rfl) HBW.out
      have z2 := cell_kept (hzc 2 _ rfl) HBW.out
      have z3 := cell_kept (hzc 3 _ rfl) HBW.out
      have z4 := cell_kept (hzc 4 _ rfl) HBW.out
      have z5 := cell_kept (hzc 5 _ rfl) HBW.out
      have z6 := cell_kept (hzc 6 _ rfl) HBW.out
      have z7 := cell_kept (hzc 7 _ rfl) HBW.out
      have z8 := cell_kept (hzc 8 _ rfl) HBW.out
      have z9 := cell_kept (hzc 9 _ rfl) HBW.out
      clear hyc hN1 hzc hN2 hy hv hv'
      go_wp2_with fail
      go_region_law (first
        | (go_simp; go_at_call 28; (with_reducible refine HCL.out.mono ?_); rintro e w5 ⟨rfl, hB5⟩
           have HB5 := Lib.hid (HBW.out.trans (((Below.refl _ wo).drew.trans hB5).mono HBW.out.size))
           clear hB5)
        | fail)
      all_goals
        go_wp2_with fail
        go_roundw
        case rel => exact ⟨j + 1, by omega, by go_num, HB5⟩
        case measure => simp [intOf] <;> omega
    · obtain rfl : j = q := by omega
      have hjn : ((j : Int) < (j : Int)) = False := eq_false (by omega)
      go_wp2_with fail
      go_ret
      exact ⟨rfl, HBW.out⟩
theorem same_any (cl cl' : Vl → Vl) (ok ok' : Nat → Prop) (HEX : ∀ v W, Calls Tryz.prog 50 #[vlV (cl v), vlV (cl' v)] W (RetV (.bool true) W)) : ∀ (n : Nat) (p : Nd) (A : Option Addr) (q c : Nat) (A' : Option Addr) (q' c' : Nat) (w : World), NdAt cl ok w n (ndL p (cl p.lit) A q c) p → NdAt cl' ok' w n (ndL p (cl' p.lit) A' q' c') p → Calls Tryz.prog 28 #[ndV p (cl p.lit) A q c, ndV p (cl' p.lit) A' q' c'] w (RetV (.bool true) w)
  | 0, _, _, _, _, _, _, _, _, h, _ => h.elim
  | n + 1, p, A, q, c, A', q', c', w, h, h' => by
    obtain ⟨vs, rfl, hC, hN⟩ := nd_open h
    obtain ⟨vs', rfl, hC', hN'⟩ := nd_open h'
    rw [hN.1, hN'.1]
    exact same_step p _ _ A _ c A' c' w (HEX p.lit) fun W hB => sameall_step cl cl' ok ok' n p.args A vs c A' vs' c' W (CellsAt.keep hB hC) (hN.keep hB) (CellsAt.keep hB hC') (hN'.keep hB) fun p _ A q c A' q' c' W _ h h' => same_any cl cl' ok ok' HEX n p A q c A' q' c' W h h'
theorem sameall_any (cl cl' : Vl → Vl) (ok ok' : Nat → Prop) (HEX : ∀ v W, Calls Tryz.prog 50 #[vlV (cl v), vlV (cl' v)] W (RetV (.bool true) W)) (n : Nat) (ps : List Nd) (A : Option Addr) (vs : List (List Value)) (c : Nat) (A' : Option Addr) (vs' : List (List Value)) (c' : Nat) (w : World) (hC : CellsAt w 10 A vs) (hN : NdsAt cl ok w n vs ps) (hC' : CellsAt w 10 A' vs') (hN' : NdsAt cl' ok' w n vs' ps) : Calls Tryz.prog 17 #[.slice A vs.length c, .slice A' vs'.length c'] w (RetV (.bool true) w) := by
  rw [hN.1, hN'.1]
  exact sameall_step cl cl' ok ok' n ps A vs c A' vs' c' w hC hN hC' hN' fun p _ A q c A' q' c' W _ h h' => same_any cl cl' ok ok' HEX n p A q c A' q' c' W h h'
theorem exact_any (v : Vl) (w : World) : Calls Tryz.prog 50 #[vlV v, vlV v] w (RetV (.bool true) w) := by
  cases h : feq v.f v.f with
  | true => exact exact_same v.k v.n v.f v.s w h
  | false => exact exact_nan v.k v.n v.f v.f v.s w h h
set_option maxRecDepth 100000 in
set_option maxHeartbeats 16000000 in
theorem ints_any (l : List Int) (A : Option Addr) (c : Nat) (A' : Option Addr) (c' : Nat) (w : World) (h : IntsAt w A l) (h' : IntsAt w A' l) : Calls Tryz.prog 23 #[.slice A l.length c, .slice A' l.length c'] w (RetV (.bool true) w) := by
  have HA := Lib.hid h
  have HA' := Lib.hid h'
  obtain ⟨q, hq⟩ : ∃ m, m = l.length := ⟨_, rfl⟩
  have HQ := Lib.hid hq
  have hqm : q ≤ 9223372036854775807 := by rw [hq]; exact h.1
  rw [← hq]
  clear h h' hq
  have g0 : ((q : Int) != (q : Int)) = false := by simp
  go_enter Tryz.func23, Tryz.ntmps23
  go_wp2_with fail
  go_loopw [5] (fun i wr => ∃ (j : Nat), j ≤ q ∧ i = .int .i64 j ∧ Hid (Below w.heap.size w wr)) (fun i _ => q - (intOf i).toNat)
  case atStart => exact ⟨0, Nat.zero_le _, rfl, Lib.hid (Below.refl _ _)⟩
  case round =>
    obtain ⟨j, hj, rfl, HBW⟩ := hrel
    obtain ⟨wo, rfl⟩ : ∃ wo : World, wo = wr := ⟨_, rfl⟩
    by_cases hjq : j < q
    · have hjn : ((j : Int) < (q : Int)) = True := eq_true (by omega)
      obtain ⟨z, hz⟩ : ∃ y, l[j]? = some y := ⟨_, List.getElem?_eq_getElem (by have := HQ.out; omega)⟩
      obtain ⟨eb, eo, rfl, heb, ht⟩ := int_at HA.out hz
      obtain ⟨fb, fo, rfl, hfb, hu⟩ := int_at HA'.out hz
      have t0 := cell_kept ht HBW.out
      have z0 := cell_kept hu HBW.out
      clear hz ht hu
      have g1 : (z != z) = false := by simp
      go_wp2_with fail
      go_quiet ((fail))
      go_wp2_with fail
      go_roundw
      case rel => exact ⟨j + 1, by omega, by go_num, Lib.hid (below_drewN HBW.out nq)⟩
      case measure => simp [intOf] <;> omega
    · obtain rfl : j = q := by omega
      have hjn : ((j : Int) < (j : Int)) = False := eq_false (by omega)
      go_wp2_with fail
      go_ret
      exact ⟨rfl, HBW.out⟩
end Go.Proofs.YthdmfaepjemopaaGreatDoor
namespace Go.Proofs.YthdmfaepjemopaaGreatDoor
open Go.RowKit

set_option maxRecDepth 100000 in
set_option maxHeartbeats 16000000 in
theorem sameq_step (tabs begs grp : List Int) (width lim : Int) (gr : Bool) (wn i_n on : Nat) (ol : List (Int × Bool)) (tA : Option Addr) (tcA : Nat) (bA : Option Addr) (bcA : Nat) (hA : Option Addr) (hcA : Nat) (gA : Option Addr) (gcA : Nat) (iA : Option Addr) (icA : Nat) (oA : Option Addr) (ocA : Nat) (tB : Option Addr) (tcB : Nat) (bB : Option Addr) (bcB : Nat) (hB : Option Addr) (hcB : Nat) (gB : Option Addr) (gcB : Nat) (iB : Option Addr) (icB : Nat) (oB : Option Addr) (ocB : Nat) (w : World) (hon : on = ol.length)
    (HT : ∀ W, Below w.heap.size w W → Calls Tryz.prog 23 #[.slice tA tabs.length tcA, .slice tB tabs.length tcB] W (RetV (.bool true) W))
    (HG : ∀ W, Below w.heap.size w W → Calls Tryz.prog 23 #[.slice bA begs.length bcA, .slice bB begs.length bcB] W (RetV (.bool true) W))
    (HW : ∀ W, Below w.heap.size w W → Calls Tryz.prog 17 #[.slice hA wn hcA, .slice hB wn hcB] W (RetV (.bool true) W))
    (HU : ∀ W, Below w.heap.size w W → Calls Tryz.prog 23 #[.slice gA grp.length gcA, .slice gB grp.length gcB] W (RetV (.bool true) W))
    (HI : ∀ W, Below w.heap.size w W → Calls Tryz.prog 17 #[.slice iA i_n icA, .slice iB i_n icB] W (RetV (.bool true) W))
    (hO : CellsAt w 2 oA (ol.map sortL)) (hO' : CellsAt w 2 oB (ol.map sortL)) :
    Calls Tryz.prog 14 #[.agg #[.slice tA tabs.length tcA, .slice bA begs.length bcA, .int .i64 width, .slice hA wn hcA, .slice gA grp.length gcA, .bool gr, .slice iA i_n icA, .slice oA on ocA, .int .i64 lim], .agg #[.slice tB tabs.length tcB, .slice bB begs.length bcB, .int .i64 width, .slice hB wn hcB, .slice gB grp.length gcB, .bool gr, .slice iB i_n icB, .slice oB on ocB, .int .i64 lim]] w (RetV (.bool true) w) := by
  have HT := Lib.hid HT
  have HG := Lib.hid HG
  have HW := Lib.hid HW
  have HU := Lib.hid HU
  have HI := Lib.hid HI
  have HO := Lib.hid hO
  have HO' := Lib.hid hO'
  have HON := Lib.hid hon
  have hqm : on ≤ 9223372036854775807 := by have := hO.1; rw [List.length_map, ← hon] at this; exact this
  clear hO hO' hon
  have g0 : (width != width) = false := by simp
  have g1 : (lim != lim) = false := by simp
  have g2 : (gr != gr) = false := by simp
  go_enter Tryz.func14, Tryz.ntmps14
  go_wp2_with (first
    | (go_at_call 23; (with_reducible refine (HT.out _ (BX.two w _ _).below).mono ?_); rintro e wa ⟨rfl, hB⟩
       have HBa := Lib.hid ((BX.two w _ _).keep hB)
       obtain ⟨ax0, ax1, ax2, ax3, ax4, ax5, ax6, ax7, ax8⟩ := row9 (HBa.out.row0 _ _ rfl)
       obtain ⟨ay0, ay1, ay2, ay3, ay4, ay5, ay6, ay7, ay8⟩ := row9 (HBa.out.row 1 _ _ rfl)
       clear hB)
    | (go_at_call 23; (with_reducible refine (HG.out _ HBa.out.below).mono ?_); rintro e wb ⟨rfl, hB⟩
       have HBb := Lib.hid (HBa.out.keep hB)
       obtain ⟨bx0, bx1, bx2, bx3, bx4, bx5, bx6, bx7, bx8⟩ := row9 (HBb.out.row0 _ _ rfl)
       obtain ⟨by0, by1, by2, by3, by4, by5, by6, by7, by8⟩ := row9 (HBb.out.row 1 _ _ rfl)
       clear hB
       clear ax0 ax1 ax2 ax3 ax4 ax5 ax6 ax7 ax8 ay0 ay1 ay2 ay3 ay4 ay5 ay6 ay7 ay8)
    | (go_at_call 17; (with_reducible refine (HW.out _ HBb.out.below).mono ?_); rintro e wc ⟨rfl, hB⟩
       have HBc := Lib.hid (HBb.out.keep hB)
       obtain ⟨cx0, cx1, cx2, cx3, cx4, cx5, cx6, cx7, cx8⟩ := row9 (HBc.out.row0 _ _ rfl)
       obtain ⟨cy0, cy1, cy2, cy3, cy4, cy5, cy6, cy7, cy8⟩ := row9 (HBc.out.row 1 _ _ rfl)
       clear hB
       clear bx0 bx1 bx2 bx3 bx4 bx5 bx6 bx7 bx8 by0 by1 by2 by3 by4 by5 by6 by7 by8)
    | (go_at_call 23; (with_reducible refine (HU.out _ HBc.out.below).mono ?_); rintro e wd ⟨rfl, hB⟩
       have HBd := Lib.hid (HBc.out.keep hB)
       obtain ⟨dx0, dx1, dx2, dx3, dx4, dx5, dx6, dx7, dx8⟩ := row9 (HBd.out.row0 _ _ rfl)
       obtain ⟨dy0, dy1, dy2, dy3, dy4, dy5, dy6, dy7, dy8⟩ := row9 (HBd.out.row 1 _ _ rfl)
       clear hB
       clear cx0 cx1 cx2 cx3 cx4 cx5 cx6 cx7 cx8 cy0 cy1 cy2 cy3 cy4 cy5 cy6 cy7 cy8)
    | (go_at_call 17; (with_reducible refine (HI.out _ HBd.out.below).mono ?_); rintro e we ⟨rfl, hB⟩
       have HBe := Lib.hid (HBd.out.keep hB)
       obtain ⟨ex0, ex1, ex2, ex3, ex4, ex5, ex6, ex7, ex8⟩ := row9 (HBe.out.row0 _ _ rfl)
       obtain ⟨ey0, ey1, ey2, ey3, ey4, ey5, ey6, ey7, ey8⟩ := row9 (HBe.out.row 1 _ _ rfl)
       clear hB
       clear dx0 dx1 dx2 dx3 dx4 dx5 dx6 dx7 dx8 dy0 dy1 dy2 dy3 dy4 dy5 dy6 dy7 dy8)
    | fail)
  go_loopw [5] (fun i wr => ∃ (j : Nat), j ≤ on ∧ i = .int .i64 j ∧ Hid (Below we.heap.size we wr)) (fun i _ => on - (intOf i).toNat)
  case atStart => exact ⟨0, Nat.zero_le _, rfl, Lib.hid (Below.refl _ _)⟩
  case round =>
    obtain ⟨j, hj, rfl, HBW⟩ := hrel
    obtain ⟨wo, rfl⟩ : ∃ wo : World, wo = wr := ⟨_, rfl⟩
    have f0 := cell_kept ex7 HBW.out
    have f1 := cell_kept ey7 HBW.out
    have HBF := Lib.hid (HBe.out.keep HBW.out)
    clear ex0 ex1 ex2 ex3 ex4 ex5 ex6 ex7 ex8 ey0 ey1 ey2 ey3 ey4 ey5 ey6 ey7 ey8
    by_cases hjq : j < on
    · have hjn : ((j : Int) < (on : Int)) = True := eq_true (by omega)
      obtain ⟨z, hz⟩ : ∃ y, ol[j]? = some y := ⟨_, List.getElem?_eq_getElem (by have := HON.out; omega)⟩
      obtain ⟨eb, eo, rfl, heb, ht⟩ := setl_at HO.out (x := sortL z) (by rw [List.getElem?_map, hz]; rfl)
      obtain ⟨fb, fo, rfl, hfb, hu⟩ := setl_at HO'.out (x := sortL z) (by rw [List.getElem?_map, hz]; rfl)
      obtain ⟨oz, od⟩ := z
      dsimp only [sortL] at ht hu
      have t0 : wo.cell? ⟨eb, eo + j * 2, none⟩ = some (.int .i64 oz) := cell_kept (ht 0 _ rfl) HBF.out.below
      have t1 := cell_kept (ht 1 _ rfl) HBF.out.below
      have z0 : wo.cell? ⟨fb, fo + j * 2, none⟩ = some (.int .i64 oz) := cell_kept (hu 0 _ rfl) HBF.out.below
      have z1 := cell_kept (hu 1 _ rfl) HBF.out.below
      clear hz ht hu
      go_wp2_with fail
      go_quiet ((fail))
      go_wp2_with fail
      go_roundw
      case rel => exact ⟨j + 1, by omega, by go_num, Lib.hid (below_drewN HBW.out nq)⟩
      case measure => simp [intOf] <;> omega
    · obtain rfl : j = on := by omega
      have hjn : ((j : Int) < (j : Int)) = False := eq_false (by omega)
      go_wp2_with fail
      go_ret
      exact ⟨rfl, HBF.out.below⟩
theorem sameq_any (n : Nat) (q : Qy) (ok ok' : Nat → Prop) (v v' : Value) (w : World) (h : QyAt ok n w q v) (h' : QyAt ok' n w q v') : Calls Tryz.prog 14 #[v, v'] w (RetV (.bool true) w) := by
  obtain ⟨tA, tc, bA, bc, wA, wc, wvs, gA, gc, iA, ic, ivs, oA, oc, rfl, h2, h3, h4, h5, h6, h7, h8, h9⟩ := h
  obtain ⟨tA', tc', bA', bc', wA', wc', wvs', gA', gc', iA', ic', ivs', oA', oc', rfl, k2, k3, k4, k5, k6, k7, k8, k9⟩ := h'
  unfold qyV
  rw [show wvs'.length = wvs.length by rw [h5.1, k5.1], show ivs'.length = ivs.length by rw [h8.1, k8.1]]
  refine sameq_step q.tabs q.begs q.grp q.width q.lim q.gr wvs.length ivs.length q.ord.length q.ord tA tc bA bc wA wc gA gc iA ic oA oc tA' tc' bA' bc' wA' wc' gA' gc' iA' ic' oA' oc' w rfl ?_ ?_ ?_ ?_ ?_ h9.1 k9.1
  · exact fun W hB => ints_any q.tabs tA tc tA' tc' W (h2.ints.keep hB) (k2.ints.keep hB)
  · exact fun W hB => ints_any q.begs bA bc bA' bc' W (h3.ints.keep hB) (k3.ints.keep hB)
  · intro W hB
    have := sameall_any clP clP ok ok' (fun v W => exact_any (clP v) W) n q.wh wA wvs wc wA' wvs' wc' W (CellsAt.keep hB h4.1) (h5.keep hB) (CellsAt.keep hB k4.1) (k5.keep hB)
    rwa [show wvs'.length = wvs.length by rw [h5.1, k5.1]] at this
  · exact fun W hB => ints_any q.grp gA gc gA' gc' W (h6.ints.keep hB) (k6.ints.keep hB)
  · intro W hB
    have := sameall_any clP clP ok ok' (fun v W => exact_any (clP v) W) n q.items iA ivs ic iA' ivs' ic' W (CellsAt.keep hB h7.1) (h8.keep hB) (CellsAt.keep hB k7.1) (k8.keep hB)
    rwa [show ivs'.length = ivs.length by rw [h8.1, k8.1]] at this
end Go.Proofs.YthdmfaepjemopaaGreatDoor
