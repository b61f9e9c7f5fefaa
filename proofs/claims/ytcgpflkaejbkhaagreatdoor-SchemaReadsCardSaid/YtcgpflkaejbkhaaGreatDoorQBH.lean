/- The walk of Entries: laws on its pieces. -/
import Derived.Test.YtcgpflkaejbkhaaGreatDoorQBF
import Derived.Deep.RegionLaw
import Derived.Deep.RegionHeld3
import Derived.Deep.CutRange
namespace Go.Proofs.YtcgpflkaejbkhaaGreatDoor
open Go.RowKit

theorem info57 : (Tryz.prog.info? 57).map (fun i => (i.zero, i.size, i.bytes)) = some (some (.agg #[.slice none 0 0, .slice none 0 0]), 2, 48) := by kernel_rfl
theorem list_ent (w : World) {ops : Array Oper} {rest : List Oper} {o : Oper} {a : Act} {Q : Exit → Act → World → Prop} (hgd : o.guard = none) (s x : Operand)
   (ho : o.op = .call { callee := .builtin .append, args := #[s, x], argTypes := #[54, 54] }) (base : Nat) (v : Value) (n : Nat) (xs : List Value) (hv : a.eval s = v) (hown : w.ownsRow base 57 2 v n xs)
   (b c : Nat) (t : EntV) (hx : a.eval x = .slice (some ⟨b, 0, none⟩) 1 c) (hq : w.heap[b]? = some (.cells (entL t).toArray 57)) (hl : n ≤ 2000) (hbase : base ≤ w.heap.size)
   (h : ∀ v' w', w'.ownsRow base 57 2 v' (n + 1) (xs ++ entL t) → w.grownBy w' v.ownBlock → (v'.ownBlock = v.ownBlock ∨ v'.ownBlock = some w.heap.size) → wpList Tryz.prog ops Q rest (a.put o.dst v') w') : wpList Tryz.prog ops Q (o :: rest) a w := by
 refine wpList_plain hgd fun K hK => ?_
 obtain ⟨i0, hi0, hz0, hz1, hz2⟩ := info_parts info57
 obtain ⟨v', w', hrun, g2, g3, _, g5⟩ := run_append_own_at (P := Tryz.prog) w base 54 o.type 57 i0 _ 2 48 Tryz.underlying54 hi0 hz0 hz1 hz2 rfl (by omega) v n xs hown ⟨b, 0, none⟩ 1 c (entL t) rfl
   (fun j u hj => by
     rw [Addr.add_lit, Nat.zero_add, cell_of_row w b j _ _ _ hq]
     simpa using hj)
   (fun u hu => by
     unfold entL at hu
     simp only [List.mem_cons, List.mem_nil_iff, or_false] at hu
     rcases hu with rfl | rfl <;> rfl) (by unfold maxLen; omega) (by omega) hbase
 unfold Oper.wp
 simp only [execOp, ho, resolve, invoke, builtin, Sem.run_bind, Sem.run_pure, Result.andThen_ok, List.map_toArray, List.map_cons, List.map_nil, hv, hx, hrun]
 exact hK _ _ (h v' w' g2 g3 g5)
theorem numB_ne (n : Nat) : numB n ≠ [] := by
 rw [numB]
 split <;> simp
theorem NewB.src {w : World} {l : List UInt8} {e : Ending} {w' : World} (h : NewB w l e w') (hl : l ≠ []) : ∃ g cap, e = .returned (.slice (some ⟨g, 0, none⟩) l.length cap) ∧ Below w.heap.size w w' ∧ OwnB w' w.heap.size (.slice (some ⟨g, 0, none⟩) l.length cap) l ∧ w.heap.size ≤ g := by
 obtain ⟨v, rfl, hB, hO⟩ := h
 obtain ⟨g, cap, rfl, h1, h2⟩ := hO.slice hl
 exact ⟨g, cap, rfl, hB, hO, h1⟩
theorem cat_two (a b : Nat × Nat × List UInt8) (sb c : Nat) (w : World) (hb : w.heap[sb]? = some (.cells #[srcV a, srcV b] 55)) (ha : SrcB w a) (hb2 : SrcB w b) (h0 : 0 < (a.2.2 ++ b.2.2).length) (hl : (a.2.2 ++ b.2.2).length ≤ 50000) : Calls Tryz.prog 78 #[.slice (some ⟨sb, 0, none⟩) 2 c] w (NewB w (a.2.2 ++ b.2.2)) := by
 have e : catL [a, b] [a, b].length = a.2.2 ++ b.2.2 := by unfold catL; simp
 rw [← e] at h0 hl ⊢
 exact cat_any [a, b] sb c w hb (fun p hp => by simp only [List.mem_cons, List.mem_nil_iff, or_false] at hp; rcases hp with rfl | rfl <;> assumption) h0 hl (by simp)
theorem cat_four (a b d f : Nat × Nat × List UInt8) (sb c : Nat) (w : World) (hb : w.heap[sb]? = some (.cells #[srcV a, srcV b, srcV d, srcV f] 55)) (h1 : SrcB w a) (h2 : SrcB w b) (h3 : SrcB w d) (h4 : SrcB w f) (h0 : 0 < (a.2.2 ++ (b.2.2 ++ (d.2.2 ++ f.2.2))).length) (hl : (a.2.2 ++ (b.2.2 ++ (d.2.2 ++ f.2.2))).length ≤ 50000) : Calls Tryz.prog 78 #[.slice (some ⟨sb, 0, none⟩) 4 c] w (NewB w (a.2.2 ++ (b.2.2 ++ (d.2.2 ++ f.2.2)))) := by
 have e : catL [a, b, d, f] [a, b, d, f].length = a.2.2 ++ (b.2.2 ++ (d.2.2 ++ f.2.2)) := by unfold catL; simp
 rw [← e] at h0 hl ⊢
 exact cat_any [a, b, d, f] sb c w hb (fun p hp => by simp only [List.mem_cons, List.mem_nil_iff, or_false] at hp; rcases hp with rfl | rfl | rfl | rfl <;> assumption) h0 hl (by simp)
theorem Src5.keep {W W' : World} {g : Nat} {l : List UInt8} (h : Src5 W g l) (hB : Below W.heap.size W W') : Src5 W' g l := h.grown (grown_of_below hB none) (by simp)
structure EnB (w : World) (A : Option Addr) (n c : Nat) (ia : Option Addr) (mx ic : Nat) (H : Nat) (v : Value) (k : Nat) (es : List EntV) (xb : Nat) (row : Array Value) (ty : TypeId) (vb : Value) (l : List UInt8) (W : World) : Prop where
 ens : EnS w A n c ia mx ic H v k es W
 b : OwnB W H vb l
 box : W.heap[xb]? = some (.cells row ty)
 hxb : xb < H
theorem EnB.keep {w : World} {A : Option Addr} {n c : Nat} {ia : Option Addr} {mx ic : Nat} {H : Nat} {v : Value} {k : Nat} {es : List EntV} {xb : Nat} {row : Array Value} {ty : TypeId} {vb : Value} {l : List UInt8} {W W' : World} (h : EnB w A n c ia mx ic H v k es xb row ty vb l W) (hB : Below W.heap.size W W') : EnB w A n c ia mx ic H v k es xb row ty vb l W' :=
 ⟨h.ens.keep hB, h.b.keep hB, (hB.block _ (heap_lt h.box)).trans h.box, h.hxb⟩
theorem EnB.app {w : World} {A : Option Addr} {n c : Nat} {ia : Option Addr} {mx ic : Nat} {H : Nat} {v : Value} {k : Nat} {es : List EntV} {xb : Nat} {row : Array Value} {ty : TypeId} {vb : Value} {l : List UInt8} {W W' : World} (h : EnB w A n c ia mx ic H v k es xb row ty vb l W) {v' : Value} {l' : List UInt8} (hown : OwnB W' H v' l') (hg : W.grownBy W' vb.ownBlock) : EnB w A n c ia mx ic H v k es xb row ty v' l' W' := by
 have hx := h.hxb
 refine ⟨h.ens.grown hg (fun b e => ⟨(h.b.lt b e).1, ?_⟩), hown, (hg.block _ (heap_lt h.box) (fun e => by have := (h.b.lt _ e.symm).1; omega)).trans h.box, hx⟩
 rcases h.b.2 with ⟨e1, _⟩ | ⟨g', cap', cur, e1, _, h3, _⟩
 · rw [e1] at e; cases e
 · rw [e1] at e
   have := Option.some.inj e
   dsimp only at this
   subst this
   exact ⟨cur, 5, _, h3, by decide⟩
theorem OwnB.le {W : World} {base base' : Nat} {v : Value} {l : List UInt8} (h : OwnB W base v l) (hb : base' ≤ base) : OwnB W base' v l :=
 ⟨h.1, h.2.imp id fun ⟨g, cap, cur, e1, e2, e3⟩ => ⟨g, cap, cur, e1, by omega, e3⟩⟩
def EntsP (w : World) (L : List (List UInt8 × List UInt8)) (e : Ending) (w' : World) : Prop := ∃ (v : Value) (es : List EntV), e = .returned v ∧ Below w.heap.size w w' ∧ w'.ownsRow (w.heap.size + 1) 57 2 v es.length (es.map entL).flatten ∧ es.map entP = L ∧ ∀ x ∈ es, EntOk w'.heap.size w' x
theorem key_conv (c : UInt8) (nm : ByteArray) (W : World) : ∃ (U : ByteArray) (K : List UInt8) (cp : Nat) (W' : World), K = c :: nm.data.toList ∧ U = ⟨#[c]⟩ ++ nm ∧ (convert 9 55 (.string U)).run Tryz.prog W = .ok (.slice (some ⟨W.heap.size, 0, none⟩) K.length cp) W' ∧ Below W.heap.size W W' ∧ Src5 W' W.heap.size K := by
 have hd : ((⟨#[c]⟩ : ByteArray) ++ nm).data.toList = c :: nm.data.toList := by
   rw [ByteArray.data_append]
   simp
 refine ⟨⟨#[c]⟩ ++ nm, c :: nm.data.toList, grownCap W (⟨#[c]⟩ ++ nm).size 0 5, W.drew.alloc (.cells (bytesRow (⟨#[c]⟩ ++ nm) (grownCap W (⟨#[c]⟩ ++ nm).size 0 5)) 5 ((bytesRow (⟨#[c]⟩ ++ nm) (grownCap W (⟨#[c]⟩ ++ nm).size 0 5)).size, (bytesRow (⟨#[c]⟩ ++ nm) (grownCap W (⟨#[c]⟩ ++ nm).size 0 5)).size + 1)), rfl, rfl, ?_, ?_, ?_⟩
 · rw [conv_bytes W (⟨#[c]⟩ ++ nm), ← hd, Array.length_toList]
   rfl
 · exact ((Below.refl _ _).drew).alloc (Nat.le_refl _) _
 · have h := bytes_new W (⟨#[c]⟩ ++ nm) (grownCap W (⟨#[c]⟩ ++ nm).size 0 5)
   rw [hd] at h
   exact h.src5
end Go.Proofs.YtcgpflkaejbkhaaGreatDoor
namespace Go.Proofs.YtcgpflkaejbkhaaGreatDoor
open Go.RowKit

set_option maxRecDepth 100000 in
set_option maxHeartbeats 16000000 in
theorem ents_any (A : Option Addr) (c : Nat) (ts : List (Tab × List Col)) (ia : Option Addr) (ic : Nat) (xs : List (Idx × List Int)) (w : World) (hD : DeepAt w A ts) (hX : DeepIx w ia xs) (hn : ts.length ≤ 1000) (hm : xs.length ≤ 1000) (hT : ∀ p ∈ ts, OkT (ptOf p)) (hX2 : ∀ p ∈ xs, OkX (pxOf p)) :
   Calls Tryz.prog 51 #[.agg #[.slice A ts.length c, .slice ia xs.length ic]] w (EntsP w (entsP (ts.map ptOf) (xs.map pxOf))) := by
 obtain ⟨n, hnn⟩ : ∃ n, n = ts.length := ⟨_, rfl⟩
 obtain ⟨mx, hmm⟩ : ∃ n, n = xs.length := ⟨_, rfl⟩
 have HN := Lib.hid hnn
 have HM := Lib.hid hmm
 have HD := Lib.hid hD
 have HX := Lib.hid hX
 have HT := Lib.hid hT
 have HX2 := Lib.hid hX2
 rw [← hnn] at hn ⊢
 rw [← hmm] at hm ⊢
 have HB0 := Lib.hid (show EnS w A n c ia mx ic (w.heap.size + 1) (.slice none 0 0) 0 [] (w.alloc (.cells #[.slice A n c, .slice ia mx ic] 36)) from ⟨below1 w _, heap_alloc_new w _, World.ownsRow_nil _ _ _ _, rfl, (fun e he => by cases he), by simp, by omega⟩)
 have q0 := cell_of_row _ _ 0 _ _ _ HB0.out.arg
 have q1 := cell_of_row _ _ 1 _ _ _ HB0.out.arg
 have HNM := Lib.hid (show ∀ (z : Int) (W : World), 0 ≤ z → z ≤ 1000000 → Calls Tryz.prog 80 #[.int .u64 z] W fun e w' => ∃ g cap, e = .returned (.slice (some ⟨g, 0, none⟩) (numB z.toNat).length cap) ∧ Below W.heap.size W w' ∧ OwnB w' W.heap.size (.slice (some ⟨g, 0, none⟩) (numB z.toNat).length cap) (numB z.toNat) ∧ W.heap.size ≤ g from fun z W h0 h1 => by
   have h := wr_num z.toNat W (by omega)
   rw [Int.toNat_of_nonneg h0] at h
   exact h.mono fun e w' h => h.src (numB_ne _))
 have HIN := Lib.hid (show ∀ (z : Int) (W : World), 0 ≤ z → z ≤ 9223372036854775807 → Calls Tryz.prog 81 #[.int .i64 z] W fun e w' => ∃ g cap, e = .returned (.slice (some ⟨g, 0, none⟩) (intB z).length cap) ∧ Below W.heap.size W w' ∧ OwnB w' W.heap.size (.slice (some ⟨g, 0, none⟩) (intB z).length cap) (intB z) ∧ W.heap.size ≤ g from fun z W h0 h1 => (wr_int z W h0 h1).mono fun e w' h => h.src (numB_ne _))
 have HTX := Lib.hid (show ∀ (s : ByteArray) (W : World), s.size ≤ 100 → Calls Tryz.prog 79 #[.string s] W fun e w' => ∃ g cap, e = .returned (.slice (some ⟨g, 0, none⟩) (textB s).length cap) ∧ Below W.heap.size W w' ∧ OwnB w' W.heap.size (.slice (some ⟨g, 0, none⟩) (textB s).length cap) (textB s) ∧ W.heap.size ≤ g from fun s W h0 => (wr_text s W (by omega)).mono fun e w' h => h.src (by unfold textB; simp [numB_ne]))
 clear hD hX hT hX2 hnn hmm
 go_enter Tryz.func51, Tryz.ntmps51
 go_wp2_with fail
 go_loopw [3, 17] (fun v i wr => ∃ (k : Nat) (es : List EntV) (H : Nat), k ≤ mx ∧ i = .int .i64 k ∧ Hid (EnS w A n c ia mx ic H v k es wr) ∧ Hid (es.map entP = ((xs.map pxOf).take k).map entX)) (fun _ i _ => mx - (intOf i).toNat)
 case atStart => exact ⟨0, [], _, Nat.zero_le _, rfl, HB0, Lib.hid rfl⟩
 case round =>
   obtain ⟨k, es, H, hk, rfl, HE, HL⟩ := hrel
   obtain ⟨wo, rfl⟩ : ∃ wo : World, wo = wr := ⟨_, rfl⟩
   clear q0 q1
   by_cases hlt : k < mx
   · obtain ⟨⟨x, pl⟩, hx⟩ : ∃ x, xs[k]? = some x := ⟨_, List.getElem?_eq_getElem (by have := HM.out; omega)⟩
     have HXK := Lib.hid (show es.map entP ++ [entX (pxOf (x, pl))] = ((xs.map pxOf).take (k + 1)).map entX by rw [HL.out, List.take_add_one, List.getElem?_map, hx]; simp)
     obtain ⟨hpl, hpn, hpc, hnone⟩ := HX.out.2 (x, pl) (List.mem_of_getElem? hx)
     have hok := HX2.out (x, pl) (List.mem_of_getElem? hx)
     dsimp only at hpl hpn hpc hnone
     obtain ⟨b, off, rfl, hbl, hcells⟩ : ∃ b off, ia = some ⟨b, off, none⟩ ∧ b < w.heap.size ∧ ∀ (i : Nat) (u : Value), (idxL x)[i]? = some u → w.cell? ⟨b, off + k * 6 + i, none⟩ = some u := by
       rcases HX.out.1.2 with h0' | ⟨b, off, h1, h2, h3⟩
       · exfalso
         have := List.map_eq_nil_iff.1 (List.map_eq_nil_iff.1 h0')
         subst this
         simp at hx
       · exact ⟨b, off, h1, h2, (h3 k _ (by rw [List.getElem?_map, List.getElem?_map, hx]; rfl)).2⟩
     obtain ⟨xn, xt, xa, xl, xc, xr, xo, xu⟩ := x
     obtain rfl : xl = pl.length := hpn
     have HPL := Lib.hid hpl
     have HXT := Lib.hid (show xt.size ≤ 100 from hok.table)
     have HXN := Lib.hid (show xn.size ≤ 100 from hok.name)
     have HXR := Lib.hid (show 0 ≤ xr ∧ xr ≤ 1000 from hok.state)
     have HXO := Lib.hid (show 0 ≤ xo ∧ xo ≤ 10000 from hok.root)
     have HXU := Lib.hid (show 0 ≤ xu ∧ xu ≤ 9223372036854775807 from hok.cursor)
     have HPC := Lib.hid (show ∀ z ∈ pl, 0 ≤ z ∧ z ≤ 1000 from hok.places)
     have hkk : ∀ (i : Nat) (u : Value), [Value.string xn, .string xt, .slice xa pl.length xc, .int .i64 xr, .int .i64 xo, .int .i64 xu][i]? = some u → wo.cell? ⟨b, off + k * 6 + i, none⟩ = some u := fun i u hi => (HE.out.below.cell (p := ⟨b, off + k * 6 + i, none⟩) hbl).trans (hcells i u hi)
     have k0 : wo.cell? ⟨b, off + k * 6, none⟩ = some (.string xn) := hkk 0 _ rfl
     have k1 : wo.cell? ⟨b, off + k * 6 + 1, none⟩ = some (.string xt) := hkk 1 _ rfl
     have k2 : wo.cell? ⟨b, off + k * 6 + 2, none⟩ = some (.slice xa pl.length xc) := hkk 2 _ rfl
     have k3 : wo.cell? ⟨b, off + k * 6 + 3, none⟩ = some (.int .i64 xr) := hkk 3 _ rfl
     have k4 : wo.cell? ⟨b, off + k * 6 + 4, none⟩ = some (.int .i64 xo) := hkk 4 _ rfl
     have k5 : wo.cell? ⟨b, off + k * 6 + 5, none⟩ = some (.int .i64 xu) := hkk 5 _ rfl
     have HP := Lib.hid (show pl.length ≤ 10 from hok.len)
     obtain ⟨pn, hpn2⟩ : ∃ pn, pn = pl.length := ⟨_, rfl⟩
     rw [← hpn2] at k2 HP
     have HPN := Lib.hid hpn2
     have hpn10 : pn ≤ 10 := HP.out
     have hwp : IntKind.u64.wrap (pn : Int) = (pn : Int) := IntWalk.u64_in _ ⟨by omega, by omega⟩
     obtain ⟨w4, hw4⟩ : ∃ w4, w4 = wo.alloc (.cells #[.string xn, .string xt, .slice xa pn xc, .int .i64 xr, .int .i64 xo, .int .i64 xu] 28) := ⟨_, rfl⟩
     have HQ4 := Lib.hid (show w4.drew.heap[wo.heap.size]? = some (.cells #[.string xn, .string xt, .slice xa pn xc, .int .i64 xr, .int .i64 xo, .int .i64 xu] 28) by rw [hw4]; exact heap_alloc_new wo _)
     have HE4 := Lib.hid (show EnS w A n c (some ⟨b, off, none⟩) mx ic w4.drew.heap.size _ k es w4.drew from (HE.out.keep (by rw [hw4]; exact (below1 wo _).drew)).lift)
     have j1 : w4.drew.cell? ⟨wo.heap.size, 1, none⟩ = some (.string xt) := cell_of_row _ _ 1 _ _ _ HQ4.out
     have j2 : w4.drew.cell? ⟨wo.heap.size, 2, none⟩ = some (.slice xa pn xc) := cell_of_row _ _ 2 _ _ _ HQ4.out
     obtain ⟨L1, hL1⟩ : ∃ L1, L1 = textB xt ++ numB pn := ⟨_, rfl⟩
     have HL1 := Lib.hid hL1
     have HCAT := Lib.hid (show ∀ (g5 c5 g6 c6 sb : Nat) (W : World), Src5 W g5 (textB xt) → Src5 W g6 (numB pn) → W.heap[sb]? = some (.cells #[.slice (some ⟨g5, 0, none⟩) (textB xt).length c5, .slice (some ⟨g6, 0, none⟩) (numB pn).length c6] 55) → Calls Tryz.prog 78 #[.slice (some ⟨sb, 0, none⟩) 2 2] W fun e w' => ∃ g cap, e = .returned (.slice (some ⟨g, 0, none⟩) L1.length cap) ∧ Below W.heap.size W w' ∧ OwnB w' W.heap.size (.slice (some ⟨g, 0, none⟩) L1.length cap) L1 ∧ W.heap.size ≤ g from fun g5 c5 g6 c6 sb W h5 h6 hb => by
       rw [hL1]
       exact (cat_two (g5, c5, textB xt) (g6, c6, numB pn) sb 2 W hb h5.src h6.src (by have h2 := List.length_pos_iff.2 (numB_ne pn); dsimp only; rw [List.length_append]; omega) (by have h1 := textB_len hok.table; have h2 := numB_ten (n := pn) (by omega); dsimp only [pxOf] at *; rw [List.length_append]; omega)).mono fun e w' h => h.src (by simp [numB_ne]))
     clear hL1 hx hcells hkk hpl hok hpc hnone hpn2
     have HXB := Lib.hid (show wo.heap.size < w4.drew.heap.size from heap_lt HQ4.out)
     go_upto_region 5 with (fail)
     rw [← hw4]
     clear hw4 k0 k1 k2 k3 k4 k5
     go_cut [6, 17] from 17 to 67 (fun s6 s17 wc => s17 = .int .i64 (k : Int) ∧ ∃ g7 c7, s6 = .slice (some ⟨g7, 0, none⟩) L1.length c7 ∧ Hid (EnB w A n c (some ⟨b, off, none⟩) mx ic w4.drew.heap.size _ k es wo.heap.size #[.string xn, .string xt, .slice xa pn xc, .int .i64 xr, .int .i64 xo, .int .i64 xu] 28 (.slice (some ⟨g7, 0, none⟩) L1.length c7) L1 wc))
     case first =>
       go_region_law (first
         | (go_simp; go_at_call 79; (with_reducible refine (HTX.out _ _ HXT.out).mono ?_); rintro e w5 ⟨g5, c5, rfl, hB5, hO5, hg5⟩
            have HB5 := Lib.hid hB5
            have HS5 := Lib.hid hO5.src5
            have i2 : w5.cell? ⟨wo.heap.size, 2, none⟩ = some (.slice xa pn xc) := cell_kept j2 hB5
            clear hB5 hO5 hg5)
         | (go_simp; go_at_call 80; (with_reducible refine (HNM.out _ _ (by omega) (by omega)).mono ?_); rintro e w6 ⟨g6, c6, rfl, hB6, hO6, hg6⟩
            have HB6 := Lib.hid (HB5.out.trans (hB6.mono HB5.out.size))
            have HS6 := Lib.hid (show Src5 w6 g6 (numB pn) from hO6.src5)
            have HS5b := Lib.hid (HS5.out.keep hB6)
            clear hB6 hO6 hg6)
         | (go_simp; go_at_call 78; (with_reducible refine (HCAT.out _ _ _ _ _ _ (HS5b.out.keep (below1 _ _)) (HS6.out.keep (below1 _ _)) (heap_alloc_new _ _)).mono ?_); rintro e w7 ⟨g7, c7, rfl, hB7, hO7, hg7⟩
            have HB7 := Lib.hid ((HB6.out.alloc HB6.out.size _).trans (hB7.mono (by have := HB6.out.size; simp at this ⊢; omega)))
            have HO7 := Lib.hid (show OwnB w7 w4.drew.heap.size _ _ from hO7.le (by have := HB6.out.size; simp at this ⊢; omega))
            clear hB7 hO7 hg7)
         | fail)
       all_goals
         go_wp2_with fail
         go_meet
         exact ⟨rfl, g7, c7, rfl, Lib.hid ⟨HE4.out.keep HB7.out, HO7.out, (HB7.out.block _ HXB.out).trans HQ4.out, HXB.out⟩⟩
     case rest =>
       obtain ⟨rfl, g7, c7, rfl, HEB⟩ := hcut
       obtain ⟨w7, rfl⟩ : ∃ w7 : World, w7 = wc := ⟨_, rfl⟩
       have z2 := cell_of_row _ _ 2 _ _ _ HEB.out.box
       clear HTX HCAT HQ4 j1 j2
       go_wp2_with fail
       clear z2
       go_loopw [6, 34] (fun vb i wr => ∃ j : Nat, j ≤ pn ∧ i = .int .i64 j ∧ Hid (EnB w A n c (some ⟨b, off, none⟩) mx ic w4.drew.heap.size _ k es wo.heap.size #[.string xn, .string xt, .slice xa pn xc, .int .i64 xr, .int .i64 xo, .int .i64 xu] 28 vb (L1 ++ plB (pl.take j)) wr)) (fun _ i _ => pn - (intOf i).toNat)
       case atStart => exact ⟨0, Nat.zero_le _, rfl, Lib.hid (by rw [show L1 ++ plB (pl.take 0) = L1 from List.append_nil _]; exact HEB.out)⟩
       case round =>
         obtain ⟨j, hj, rfl, HJ⟩ := hrel
         obtain ⟨wp, rfl⟩ : ∃ wp : World, wp = wr := ⟨_, rfl⟩
         by_cases hjl : j < pn
         · obtain ⟨z, hz⟩ : ∃ z, pl[j]? = some z := ⟨_, List.getElem?_eq_getElem (by have := HPN.out; omega)⟩
           have hzr := HPC.out z (List.mem_of_getElem? hz)
           obtain ⟨pb, po, rfl, hpb, hpcell⟩ : ∃ pb po, xa = some ⟨pb, po, none⟩ ∧ pb < w.heap.size ∧ w.cell? ⟨pb, po + j, none⟩ = some (.int .i64 z) := by
             rcases HPL.out.2 with h0 | ⟨pb, po, h1, h2, h3⟩
             · rw [h0] at hz; simp at hz
             · exact ⟨pb, po, h1, h2, h3 j z hz⟩
           have y0 : wp.cell? ⟨pb, po + j, none⟩ = some (.int .i64 z) := (HJ.out.ens.below.cell (p := ⟨pb, po + j, none⟩) hpb).trans hpcell
           have hwz : IntKind.u64.wrap z = z := IntWalk.u64_in _ ⟨by omega, by omega⟩
           obtain ⟨L2, hL2⟩ : ∃ L2, L2 = L1 ++ plB (pl.take j) := ⟨_, rfl⟩
           have HL2 := Lib.hid (show L1 ++ plB (pl.take (j + 1)) = L2 ++ numB z.toNat by rw [hL2, plB_succ hz, List.append_assoc])
           have HLN := Lib.hid (show L2.length + (numB z.toNat).length ≤ 1000 by
             have h1 := plB_take HPC.out (by have := HPN.out; omega) j
             have h2 := num_len (z := z) (by omega)
             have h3 := textB_len HXT.out
             have h4 := numB_ten (n := pn) (by omega)
             rw [hL2, HL1.out, List.length_append, List.length_append]
             omega)
           obtain ⟨N8, hN8⟩ : ∃ N8, N8 = numB z.toNat := ⟨_, rfl⟩
           have HN8 := Lib.hid hN8
           rw [← hL2] at HJ
           rw [← hN8] at HL2 HLN
           have HNZ := Lib.hid (show ∀ W : World, Calls Tryz.prog 80 #[.int .u64 z] W fun e w' => ∃ g cap, e = .returned (.slice (some ⟨g, 0, none⟩) N8.length cap) ∧ Below W.heap.size W w' ∧ OwnB w' W.heap.size (.slice (some ⟨g, 0, none⟩) N8.length cap) N8 ∧ W.heap.size ≤ g from fun W => by rw [hN8]; exact HNM.out z W hzr.1 (by omega))
           clear hz hpcell hL2 hN8 hzr
           go_wp2_with (first
             | (go_at_call 80; (with_reducible refine (HNZ.out _).mono ?_); rintro e w8 ⟨g8, c8, rfl, hB8, hO8, hg8⟩
                have HJ8 := Lib.hid (HJ.out.keep hB8)
                have HO8 := Lib.hid hO8
                clear hB8 hO8 hg8)
             | (at_builtin; refine app_bytes rfl _ _ rfl w4.drew.heap.size _ L2 rfl HJ8.out.b ⟨g8, 0, none⟩ N8.length c8 N8 rfl rfl HO8.out.cells ?c1 ?c2 ?_)
             | fail)
           case c1 => have := HLN.out; omega
           case c2 => exact HJ8.out.ens.hH
           intro v' w9 hown hgrow hat
           have HJ9 := Lib.hid (HJ8.out.app hown hgrow)
           clear hown hgrow hat
           go_wp2_with fail
           go_roundw
           case rel => exact ⟨j + 1, by omega, by go_num, Lib.hid (by rw [HL2.out]; exact HJ9.out)⟩
           case measure => simp [intOf] <;> omega
         · obtain rfl : j = pn := by omega
           obtain ⟨L3, hL3⟩ : ∃ L3, L3 = L1 ++ plB (pl.take j) := ⟨_, rfl⟩
           have HL3 := Lib.hid (show L3 = (textB xt ++ numB pl.length) ++ plB pl by rw [hL3, HL1.out, HPN.out, List.take_length])
           have HLN := Lib.hid (show L3.length ≤ 500 by
             have h1 := plB_take HPC.out (by have := HPN.out; omega) j
             have h3 := textB_len HXT.out
             have h4 := numB_ten (n := j) (by omega)
             rw [hL3, HL1.out, List.length_append, List.length_append]
             omega)
           rw [← hL3] at HJ
           obtain ⟨gb, cb, rfl, _, _⟩ := HJ.out.b.slice (by rw [HL3.out]; unfold textB; simp [numB_ne])
           obtain ⟨N3, hN3⟩ : ∃ N3, N3 = numB xr.toNat := ⟨_, rfl⟩
           obtain ⟨N4, hN4⟩ : ∃ N4, N4 = numB xo.toNat := ⟨_, rfl⟩
           obtain ⟨N5, hN5⟩ : ∃ N5, N5 = intB xu := ⟨_, rfl⟩
           obtain ⟨L4, hL4⟩ : ∃ L4, L4 = L3 ++ (N3 ++ (N4 ++ N5)) := ⟨_, rfl⟩
           have HN3 := Lib.hid (show ∀ W : World, Calls Tryz.prog 80 #[.int .u64 xr] W fun e w' => ∃ g cap, e = .returned (.slice (some ⟨g, 0, none⟩) N3.length cap) ∧ Below W.heap.size W w' ∧ OwnB w' W.heap.size (.slice (some ⟨g, 0, none⟩) N3.length cap) N3 ∧ W.heap.size ≤ g from fun W => by rw [hN3]; exact HNM.out xr W HXR.out.1 (by have := HXR.out.2; omega))
           have HN4 := Lib.hid (show ∀ W : World, Calls Tryz.prog 80 #[.int .u64 xo] W fun e w' => ∃ g cap, e = .returned (.slice (some ⟨g, 0, none⟩) N4.length cap) ∧ Below W.heap.size W w' ∧ OwnB w' W.heap.size (.slice (some ⟨g, 0, none⟩) N4.length cap) N4 ∧ W.heap.size ≤ g from fun W => by rw [hN4]; exact HNM.out xo W HXO.out.1 (by have := HXO.out.2; omega))
           have HN5 := Lib.hid (show ∀ W : World, Calls Tryz.prog 81 #[.int .i64 xu] W fun e w' => ∃ g cap, e = .returned (.slice (some ⟨g, 0, none⟩) N5.length cap) ∧ Below W.heap.size W w' ∧ OwnB w' W.heap.size (.slice (some ⟨g, 0, none⟩) N5.length cap) N5 ∧ W.heap.size ≤ g from fun W => by rw [hN5]; exact HIN.out xu W HXU.out.1 HXU.out.2)
           have HCAT := Lib.hid (show ∀ (g1 c1 g2 c2 g3 c3 g4 c4 sb : Nat) (W : World), Src5 W g1 L3 → Src5 W g2 N3 → Src5 W g3 N4 → Src5 W g4 N5 → W.heap[sb]? = some (.cells #[.slice (some ⟨g1, 0, none⟩) L3.length c1, .slice (some ⟨g2, 0, none⟩) N3.length c2, .slice (some ⟨g3, 0, none⟩) N4.length c3, .slice (some ⟨g4, 0, none⟩) N5.length c4] 55) → Calls Tryz.prog 78 #[.slice (some ⟨sb, 0, none⟩) 4 4] W fun e w' => ∃ g cap, e = .returned (.slice (some ⟨g, 0, none⟩) L4.length cap) ∧ Below W.heap.size W w' ∧ OwnB w' W.heap.size (.slice (some ⟨g, 0, none⟩) L4.length cap) L4 ∧ W.heap.size ≤ g from fun g1 c1 g2 c2 g3 c3 g4 c4 sb W h1 h2 h3 h4 hb => by
             have hne : L3 ++ (N3 ++ (N4 ++ N5)) ≠ [] := by rw [hN3]; simp [numB_ne]
             rw [hL4]
             exact (cat_four (g1, c1, L3) (g2, c2, N3) (g3, c3, N4) (g4, c4, N5) sb 4 W hb h1.src h2.src h3.src h4.src (List.length_pos_iff.2 hne) (by
               have q1 := HLN.out
               have q2 := num_len (z := xr) (by have := HXR.out.2; omega)
               have q3 := num_len (z := xo) (by have := HXO.out.2; omega)
               have q4 := intB_len HXU.out.1 HXU.out.2
               rw [← hN3] at q2
               rw [← hN4] at q3
               rw [← hN5] at q4
               dsimp only
               rw [List.length_append, List.length_append, List.length_append]
               omega)).mono fun e w' h => h.src hne)
           have HL4 := Lib.hid (show L4 = ((textB xt ++ numB pl.length) ++ plB pl) ++ (numB xr.toNat ++ (numB xo.toNat ++ intB xu)) by rw [hL4, HL3.out, hN3, hN4, hN5])
           have HJ0 := Lib.hid (HJ.out.keep (Below.refl _ _).drew)
           have z3 : wp.drew.cell? ⟨wo.heap.size, 3, none⟩ = some (.int .i64 xr) := cell_of_row _ _ 3 _ _ _ HJ0.out.box
           have z4 : wp.drew.cell? ⟨wo.heap.size, 4, none⟩ = some (.int .i64 xo) := cell_of_row _ _ 4 _ _ _ HJ0.out.box
           have z5 : wp.drew.cell? ⟨wo.heap.size, 5, none⟩ = some (.int .i64 xu) := cell_of_row _ _ 5 _ _ _ HJ0.out.box
           have hw3 : IntKind.u64.wrap xr = xr := IntWalk.u64_in _ ⟨by have := HXR.out; omega, by have := HXR.out; omega⟩
           have hw5 : IntKind.u64.wrap xo = xo := IntWalk.u64_in _ ⟨by have := HXO.out; omega, by have := HXO.out; omega⟩
           clear hL3 hN3 hN4 hN5 hL4
           go_upto_region 11 with (fail)
           go_cut [6, 17] from 17 to 67 (fun s6 s17 wc => s17 = .int .i64 (k : Int) ∧ ∃ g7 c7, s6 = .slice (some ⟨g7, 0, none⟩) L4.length c7 ∧ Hid (EnB w A n c (some ⟨b, off, none⟩) mx ic w4.drew.heap.size _ k es wo.heap.size #[.string xn, .string xt, .slice xa j xc, .int .i64 xr, .int .i64 xo, .int .i64 xu] 28 (.slice (some ⟨g7, 0, none⟩) L4.length c7) L4 wc))
           case first =>
             have HSB := Lib.hid (show Src5 wp.drew gb L3 from HJ0.out.b.src5)
             go_region_law (first
               | (go_simp; go_at_call 80; (with_reducible refine (HN3.out _).mono ?_); rintro e w8 ⟨g8, c8, rfl, hB8, hO8, hg8⟩
                  have HJ8 := Lib.hid (HJ0.out.keep hB8)
                  have HSB8 := Lib.hid (HSB.out.keep hB8)
                  have HS8 := Lib.hid hO8.src5
                  have i4 : w8.cell? ⟨wo.heap.size, 4, none⟩ = some (.int .i64 xo) := cell_kept z4 hB8
                  have i5 : w8.cell? ⟨wo.heap.size, 5, none⟩ = some (.int .i64 xu) := cell_kept z5 hB8
                  clear hB8 hO8 hg8)
               | (go_simp; go_at_call 80; (with_reducible refine (HN4.out _).mono ?_); rintro e w9 ⟨g9, c9, rfl, hB9, hO9, hg9⟩
                  have HJ9 := Lib.hid (HJ8.out.keep hB9)
                  have HSB9 := Lib.hid (HSB8.out.keep hB9)
                  have HS89 := Lib.hid (HS8.out.keep hB9)
                  have HS9 := Lib.hid hO9.src5
                  have m5 : w9.cell? ⟨wo.heap.size, 5, none⟩ = some (.int .i64 xu) := cell_kept i5 hB9
                  clear hB9 hO9 hg9)
               | (go_simp; go_at_call 81; (with_reducible refine (HN5.out _).mono ?_); rintro e w10 ⟨g10, c10, rfl, hB10, hO10, hg10⟩
                  have HJ10 := Lib.hid ((HJ9.out.keep hB10).keep (below1 w10 (.cells #[.slice (some ⟨gb, 0, none⟩) L3.length cb, .slice (some ⟨g8, 0, none⟩) N3.length c8, .slice (some ⟨g9, 0, none⟩) N4.length c9, .slice (some ⟨g10, 0, none⟩) N5.length c10] 55)))
                  have HSB10 := Lib.hid ((HSB9.out.keep hB10).keep (below1 w10 (.cells #[.slice (some ⟨gb, 0, none⟩) L3.length cb, .slice (some ⟨g8, 0, none⟩) N3.length c8, .slice (some ⟨g9, 0, none⟩) N4.length c9, .slice (some ⟨g10, 0, none⟩) N5.length c10] 55)))
                  have HS810 := Lib.hid ((HS89.out.keep hB10).keep (below1 w10 (.cells #[.slice (some ⟨gb, 0, none⟩) L3.length cb, .slice (some ⟨g8, 0, none⟩) N3.length c8, .slice (some ⟨g9, 0, none⟩) N4.length c9, .slice (some ⟨g10, 0, none⟩) N5.length c10] 55)))
                  have HS910 := Lib.hid ((HS9.out.keep hB10).keep (below1 w10 (.cells #[.slice (some ⟨gb, 0, none⟩) L3.length cb, .slice (some ⟨g8, 0, none⟩) N3.length c8, .slice (some ⟨g9, 0, none⟩) N4.length c9, .slice (some ⟨g10, 0, none⟩) N5.length c10] 55)))
                  have HS10 := Lib.hid (hO10.src5.keep (below1 w10 (.cells #[.slice (some ⟨gb, 0, none⟩) L3.length cb, .slice (some ⟨g8, 0, none⟩) N3.length c8, .slice (some ⟨g9, 0, none⟩) N4.length c9, .slice (some ⟨g10, 0, none⟩) N5.length c10] 55)))
                  clear hB10 hO10 hg10)
               | (go_simp; go_at_call 78; (with_reducible refine (HCAT.out _ _ _ _ _ _ _ _ _ _ HSB10.out HS810.out HS910.out HS10.out (heap_alloc_new _ _)).mono ?_); rintro e w11 ⟨g11, c11, rfl, hB11, hO11, hg11⟩
                  have HO11 := Lib.hid (show OwnB w11 w4.drew.heap.size _ _ from hO11.le HJ10.out.ens.hH)
                  have HJ11 := Lib.hid (HJ10.out.keep hB11)
                  clear hB11 hO11 hg11)
               | fail)
             all_goals
               go_wp2_with fail
               go_meet
               exact ⟨rfl, g11, c11, rfl, Lib.hid ⟨HJ11.out.ens, HO11.out, HJ11.out.box, HJ11.out.hxb⟩⟩
           case rest =>
             obtain ⟨rfl, g11, c11, rfl, HEF⟩ := hcut
             obtain ⟨w11, rfl⟩ : ∃ w11 : World, w11 = wc := ⟨_, rfl⟩
             clear z3 z4 z5 HCAT HN3 HN4 HN5 hw3 hw5
             obtain ⟨U, K, cp, w12, hK, hU, hcv, hB12, hS12⟩ := key_conv 105 xn w11
             have HB12 := Lib.hid hB12
             have HS12 := Lib.hid hS12
             have HK := Lib.hid (show (K, L4) = entX (pxOf (⟨xn, xt, xa, pl.length, xc, xr, xo, xu⟩, pl)) by rw [hK, HL4.out]; rfl)
             have hadd : ∀ W, (Op.stringOp .add ⟨#[105]⟩ xn).run Tryz.prog W = .ok (.string U) W := fun W => by
               rw [hU]
               refine add_text W _ _ ?_
               have h1 := HXN.out
               have h3 : (⟨#[105]⟩ : ByteArray).size = 1 := rfl
               omega
             have z0 := cell_of_row _ _ 0 _ _ _ HEF.out.box
             have HF12 := Lib.hid (((HEF.out.keep hB12).keep (below1 w12 (.cells #[.slice (some ⟨w11.heap.size, 0, none⟩) K.length cp, .slice (some ⟨g11, 0, none⟩) L4.length c11] 57))))
             have HKS := Lib.hid (hS12.keep (below1 w12 (.cells #[.slice (some ⟨w11.heap.size, 0, none⟩) K.length cp, .slice (some ⟨g11, 0, none⟩) L4.length c11] 57)))
             clear hK hU hB12 hS12
             go_wp2_with (first
               | (at_builtin; refine list_ent _ rfl _ _ rfl (w.heap.size + 1) _ k (es.map entL).flatten rfl HF12.out.ens.own w12.heap.size 1 ⟨w11.heap.size, cp, K, g11, c11, L4⟩ rfl (heap_alloc_new w12 _) ?c3 ?c4 ?_)
               | fail)
             case c3 => omega
             case c4 => have h1 := HF12.out.ens.hH; have h2 := HF12.out.ens.hw; omega
             intro v' w13 hown hgrow hat
             have HMO := Lib.hid (HF12.out.ens.more HKS.out HF12.out.b.src5 hown hgrow)
             clear hown hgrow hat
             go_wp2_with fail
             go_roundw
             case rel => exact ⟨k + 1, es ++ [⟨w11.heap.size, cp, K, g11, c11, L4⟩], _, by omega, by go_num, HMO, Lib.hid (by rw [← HXK.out, List.map_append, ← HK.out]; rfl)⟩
             case measure => simp [intOf] <;> omega
   · obtain rfl : k = mx := by omega
     have HLX := Lib.hid (show es.map entP = (xs.map pxOf).map entX by rw [HL.out, List.take_of_length_le (by rw [List.length_map, ← HM.out]; exact Nat.le_refl _)])
     have q0 := cell_of_row _ _ 0 _ _ _ HE.out.arg
     have q1 := cell_of_row _ _ 1 _ _ _ HE.out.arg
     clear hlt HL
     go_wp2_with fail
     clear q0 q1
     go_loopw [3, 71] (fun v i wr => ∃ (q : Nat) (fs : List EntV) (H : Nat), q ≤ n ∧ i = .int .i64 q ∧ Hid (EnS w A n c ia k ic H v (k + q) fs wr) ∧ Hid (fs.map entP = (xs.map pxOf).map entX ++ ((ts.map ptOf).take q).map entT)) (fun _ i _ => n - (intOf i).toNat)
     case atStart => exact ⟨0, es, H, Nat.zero_le _, rfl, HE, Lib.hid (by rw [HLX.out]; simp)⟩
     case round =>
       obtain ⟨q, fs, H, hq, rfl, HF, HFL⟩ := hrel
       obtain ⟨wo, rfl⟩ : ∃ wo : World, wo = wr := ⟨_, rfl⟩
       by_cases hlt : q < n
       · obtain ⟨⟨x, cl⟩, hx⟩ : ∃ x, ts[q]? = some x := ⟨_, List.getElem?_eq_getElem (by have := HN.out; omega)⟩
         have HXK := Lib.hid (show fs.map entP ++ [entT (ptOf (x, cl))] = (xs.map pxOf).map entX ++ ((ts.map ptOf).take (q + 1)).map entT by rw [HFL.out, List.take_add_one, List.getElem?_map, hx]; simp)
         obtain ⟨hcl, hcn, hcc, hnone⟩ := HD.out.2 (x, cl) (List.mem_of_getElem? hx)
         have hok := HT.out (x, cl) (List.mem_of_getElem? hx)
         dsimp only at hcl hcn hcc hnone
         obtain ⟨b, off, rfl, hbl, hcells⟩ : ∃ b off, A = some ⟨b, off, none⟩ ∧ b < w.heap.size ∧ ∀ (i : Nat) (u : Value), (tabL x)[i]? = some u → w.cell? ⟨b, off + q * 5 + i, none⟩ = some u := by
           rcases HD.out.1.2 with h0' | ⟨b, off, h1, h2, h3⟩
           · exfalso
             have := List.map_eq_nil_iff.1 (List.map_eq_nil_iff.1 h0')
             subst this
             simp at hx
           · exact ⟨b, off, h1, h2, (h3 q _ (by rw [List.getElem?_map, List.getElem?_map, hx]; rfl)).2⟩
         obtain ⟨xn, xa, xl, xc, xr, xo, xu⟩ := x
         obtain rfl : xl = cl.length := hcn
         have HCL := Lib.hid hcl
         have HXN := Lib.hid (show xn.size ≤ 100 from hok.name)
         have HXR := Lib.hid (show 0 ≤ xr ∧ xr ≤ 10000 from hok.root)
         have HXO := Lib.hid (show 0 ≤ xo ∧ xo ≤ 9223372036854775807 from hok.next)
         have HXU := Lib.hid (show 0 ≤ xu ∧ xu ≤ 9223372036854775807 from hok.rows)
         have HPC := Lib.hid (show ∀ z ∈ cl, z.name.size ≤ 100 ∧ 0 ≤ z.ty ∧ z.ty ≤ 1000 from hok.cols)
         have HP := Lib.hid (show cl.length ≤ 10 from hok.len)
         have hkk : ∀ (i : Nat) (u : Value), [Value.string xn, .slice xa cl.length xc, .int .i64 xr, .int .i64 xo, .int .i64 xu][i]? = some u → wo.cell? ⟨b, off + q * 5 + i, none⟩ = some u := fun i u hi => (HF.out.below.cell (p := ⟨b, off + q * 5 + i, none⟩) hbl).trans (hcells i u hi)
         have k0 : wo.cell? ⟨b, off + q * 5, none⟩ = some (.string xn) := hkk 0 _ rfl
         have k1 : wo.cell? ⟨b, off + q * 5 + 1, none⟩ = some (.slice xa cl.length xc) := hkk 1 _ rfl
         have k2 : wo.cell? ⟨b, off + q * 5 + 2, none⟩ = some (.int .i64 xr) := hkk 2 _ rfl
         have k3 : wo.cell? ⟨b, off + q * 5 + 3, none⟩ = some (.int .i64 xo) := hkk 3 _ rfl
         have k4 : wo.cell? ⟨b, off + q * 5 + 4, none⟩ = some (.int .i64 xu) := hkk 4 _ rfl
         obtain ⟨pn, hpn2⟩ : ∃ pn, pn = cl.length := ⟨_, rfl⟩
         rw [← hpn2] at k1 HP
         have HPN := Lib.hid hpn2
         have hpn10 : pn ≤ 10 := HP.out
         have hwp : IntKind.u64.wrap (pn : Int) = (pn : Int) := IntWalk.u64_in _ ⟨by omega, by omega⟩
         obtain ⟨w4, hw4⟩ : ∃ w4, w4 = wo.alloc (.cells #[.string xn, .slice xa pn xc, .int .i64 xr, .int .i64 xo, .int .i64 xu] 25) := ⟨_, rfl⟩
         have HQ4 := Lib.hid (show w4.heap[wo.heap.size]? = some (.cells #[.string xn, .slice xa pn xc, .int .i64 xr, .int .i64 xo, .int .i64 xu] 25) by rw [hw4]; exact heap_alloc_new wo _)
         have HE4 := Lib.hid (show EnS w (some ⟨b, off, none⟩) n c ia k ic w4.heap.size _ (k + q) fs w4 from (HF.out.keep (by rw [hw4]; exact below1 wo _)).lift)
         have HNP := Lib.hid (show ∀ W : World, Calls Tryz.prog 80 #[.int .u64 (pn : Int)] W fun e w' => ∃ g cap, e = .returned (.slice (some ⟨g, 0, none⟩) (numB pn).length cap) ∧ Below W.heap.size W w' ∧ OwnB w' W.heap.size (.slice (some ⟨g, 0, none⟩) (numB pn).length cap) (numB pn) ∧ W.heap.size ≤ g from fun W => HNM.out (pn : Int) W (by omega) (by omega))
         have j1 : w4.cell? ⟨wo.heap.size, 1, none⟩ = some (.slice xa pn xc) := cell_of_row _ _ 1 _ _ _ HQ4.out
         clear hx hcells hkk hcl hok hcc hnone hpn2
         go_upto_region 17 with (fail)
         rw [← hw4]
         clear hw4 k0 k1 k2 k3 k4
         go_wp2_with (first
           | (go_at_call 80; (with_reducible refine (HNP.out _).mono ?_); rintro e w5 ⟨g5, c5, rfl, hB5, hO5, hg5⟩
              have HEB := Lib.hid (show EnB w (some ⟨b, off, none⟩) n c ia k ic w4.heap.size _ (k + q) fs wo.heap.size #[.string xn, .slice xa pn xc, .int .i64 xr, .int .i64 xo, .int .i64 xu] 25 (.slice (some ⟨g5, 0, none⟩) (numB pn).length c5) (numB pn) w5 from ⟨HE4.out.keep hB5, hO5, (hB5.block _ (heap_lt HQ4.out)).trans HQ4.out, heap_lt HQ4.out⟩)
              have i1 : w5.cell? ⟨wo.heap.size, 1, none⟩ = some (.slice xa pn xc) := cell_kept j1 hB5
              clear hB5 hO5 hg5)
           | fail)
         clear i1 j1
         go_loopw [11, 83] (fun vb i wr => ∃ (j : Nat) (L : List UInt8) (gv cv : Nat), j ≤ pn ∧ i = .int .i64 j ∧ vb = .slice (some ⟨gv, 0, none⟩) L.length cv ∧ Hid (L = numB pn ++ colsB (cl.take j)) ∧ Hid (EnB w (some ⟨b, off, none⟩) n c ia k ic w4.heap.size _ (k + q) fs wo.heap.size #[.string xn, .slice xa pn xc, .int .i64 xr, .int .i64 xo, .int .i64 xu] 25 (.slice (some ⟨gv, 0, none⟩) L.length cv) L wr)) (fun _ i _ => pn - (intOf i).toNat)
         case atStart => exact ⟨0, numB pn, g5, c5, Nat.zero_le _, rfl, rfl, Lib.hid (List.append_nil _).symm, HEB⟩
         case round =>
           obtain ⟨j, L, gv, cv, hj, rfl, rfl, HL, HJ⟩ := hrel
           obtain ⟨wp, rfl⟩ : ∃ wp : World, wp = wr := ⟨_, rfl⟩
           have HLN := Lib.hid (show L.length ≤ 1500 by
             have h1 := colsB_take HPC.out (by have := HPN.out; omega) j
             have h4 := numB_ten (n := pn) (by omega)
             rw [HL.out, List.length_append]
             omega)
           by_cases hjl : j < pn
           · obtain ⟨⟨zn, zt, zb⟩, hz⟩ : ∃ z, cl[j]? = some z := ⟨_, List.getElem?_eq_getElem (by have := HPN.out; omega)⟩
             have hzr := HPC.out _ (List.mem_of_getElem? hz)
             have HZN := Lib.hid (show zn.size ≤ 100 from hzr.1)
             have HZT := Lib.hid (show 0 ≤ zt ∧ zt ≤ 1000 from hzr.2)
             obtain ⟨pb, po, rfl, hpb, hpcell⟩ : ∃ pb po, xa = some ⟨pb, po, none⟩ ∧ pb < w.heap.size ∧ ∀ (i : Nat) (u : Value), [Value.string zn, .int .i64 zt, .bool zb][i]? = some u → w.cell? ⟨pb, po + j * 3 + i, none⟩ = some u := by
               rcases HCL.out.2 with h0 | ⟨pb, po, h1, h2, h3⟩
               · rw [List.map_eq_nil_iff] at h0
                 rw [h0] at hz; simp at hz
               · exact ⟨pb, po, h1, h2, (h3 j _ (by rw [List.getElem?_map, hz]; rfl)).2⟩
             have hkk : ∀ (i : Nat) (u : Value), [Value.string zn, .int .i64 zt, .bool zb][i]? = some u → wp.cell? ⟨pb, po + j * 3 + i, none⟩ = some u := fun i u hi => (HJ.out.ens.below.cell (p := ⟨pb, po + j * 3 + i, none⟩) hpb).trans (hpcell i u hi)
             have y0 : wp.cell? ⟨pb, po + j * 3, none⟩ = some (.string zn) := hkk 0 _ rfl
             have y1 : wp.cell? ⟨pb, po + j * 3 + 1, none⟩ = some (.int .i64 zt) := hkk 1 _ rfl
             have y2 : wp.cell? ⟨pb, po + j * 3 + 2, none⟩ = some (.bool zb) := hkk 2 _ rfl
             obtain ⟨N2, hN2⟩ : ∃ N2, N2 = numB zt.toNat := ⟨_, rfl⟩
             obtain ⟨N3, hN3⟩ : ∃ N3, N3 = boolB zb := ⟨_, rfl⟩
             obtain ⟨L2, hL2⟩ : ∃ L2, L2 = L ++ (textB zn ++ (N2 ++ N3)) := ⟨_, rfl⟩
             have HL2 := Lib.hid (show L2 = numB pn ++ colsB (cl.take (j + 1)) by rw [hL2, HL.out, colsB_succ hz, hN2, hN3]; unfold colB; simp)
             have HNT := Lib.hid (show ∀ W : World, Calls Tryz.prog 80 #[.int .u64 zt] W fun e w' => ∃ g cap, e = .returned (.slice (some ⟨g, 0, none⟩) N2.length cap) ∧ Below W.heap.size W w' ∧ OwnB w' W.heap.size (.slice (some ⟨g, 0, none⟩) N2.length cap) N2 ∧ W.heap.size ≤ g from fun W => by rw [hN2]; exact HNM.out zt W HZT.out.1 (by have := HZT.out.2; omega))
             have HNB := Lib.hid (show ∀ W : World, Calls Tryz.prog 82 #[.bool zb] W fun e w' => ∃ g cap, e = .returned (.slice (some ⟨g, 0, none⟩) N3.length cap) ∧ Below W.heap.size W w' ∧ OwnB w' W.heap.size (.slice (some ⟨g, 0, none⟩) N3.length cap) N3 ∧ W.heap.size ≤ g from fun W => by rw [hN3]; exact (wr_bool zb W).mono fun e w' h => h.src (by unfold boolB; simp))
             have HCAT := Lib.hid (show ∀ (g1 c1 g2 c2 g3 c3 g4 c4 sb : Nat) (W : World), Src5 W g1 L → Src5 W g2 (textB zn) → Src5 W g3 N2 → Src5 W g4 N3 → W.heap[sb]? = some (.cells #[.slice (some ⟨g1, 0, none⟩) L.length c1, .slice (some ⟨g2, 0, none⟩) (textB zn).length c2, .slice (some ⟨g3, 0, none⟩) N2.length c3, .slice (some ⟨g4, 0, none⟩) N3.length c4] 55) → Calls Tryz.prog 78 #[.slice (some ⟨sb, 0, none⟩) 4 4] W fun e w' => ∃ g cap, e = .returned (.slice (some ⟨g, 0, none⟩) L2.length cap) ∧ Below W.heap.size W w' ∧ OwnB w' W.heap.size (.slice (some ⟨g, 0, none⟩) L2.length cap) L2 ∧ W.heap.size ≤ g from fun g1 c1 g2 c2 g3 c3 g4 c4 sb W h1 h2 h3 h4 hb => by
               have hne : L ++ (textB zn ++ (N2 ++ N3)) ≠ [] := by rw [hN2]; simp [numB_ne]
               rw [hL2]
               exact (cat_four (g1, c1, L) (g2, c2, textB zn) (g3, c3, N2) (g4, c4, N3) sb 4 W hb h1.src h2.src h3.src h4.src (List.length_pos_iff.2 hne) (by
                 have q1 := HLN.out
                 have q2 := textB_len HZN.out
                 have q3 := num_len (z := zt) (by have := HZT.out.2; omega)
                 have q4 : N3.length = 1 := by rw [hN3]; rfl
                 rw [← hN2] at q3
                 dsimp only
                 rw [List.length_append, List.length_append, List.length_append]
                 omega)).mono fun e w' h => h.src hne)
             have hw3 : IntKind.u64.wrap zt = zt := IntWalk.u64_in _ ⟨by have := HZT.out; omega, by have := HZT.out; omega⟩
             obtain ⟨w5', hw5⟩ : ∃ w5', w5' = wp.alloc (.cells #[.string zn, .int .i64 zt, .bool zb] 42) := ⟨_, rfl⟩
             have HJ0 := Lib.hid (HJ.out.keep (show Below wp.heap.size wp w5'.drew by rw [hw5]; exact (below1 wp _).drew))
             have HQ5 := Lib.hid (show w5'.drew.heap[wp.heap.size]? = some (.cells #[.string zn, .int .i64 zt, .bool zb] 42) by rw [hw5]; exact heap_alloc_new wp _)
             have z0 : w5'.drew.cell? ⟨wp.heap.size, 0, none⟩ = some (.string zn) := cell_of_row _ _ 0 _ _ _ HQ5.out
             have z1 : w5'.drew.cell? ⟨wp.heap.size, 1, none⟩ = some (.int .i64 zt) := cell_of_row _ _ 1 _ _ _ HQ5.out
             have z2 : w5'.drew.cell? ⟨wp.heap.size, 2, none⟩ = some (.bool zb) := cell_of_row _ _ 2 _ _ _ HQ5.out
             clear hz hpcell hkk hL2 hN2 hN3 hzr
             go_upto_region 21 with (fail)
             rw [← hw5]
             clear hw5 y0 y1 y2
             have HSB := Lib.hid (show Src5 w5'.drew gv L from HJ0.out.b.src5)
             go_region_law (first
               | (go_simp; go_at_call 79; (with_reducible refine (HTX.out _ _ HZN.out).mono ?_); rintro e w8 ⟨g8, c8, rfl, hB8, hO8, hg8⟩
                  have HJ8 := Lib.hid (HJ0.out.keep hB8)
                  have HSB8 := Lib.hid (HSB.out.keep hB8)
                  have HS8 := Lib.hid hO8.src5
                  have i4 : w8.cell? ⟨wp.heap.size, 1, none⟩ = some (.int .i64 zt) := cell_kept z1 hB8
                  have i5 : w8.cell? ⟨wp.heap.size, 2, none⟩ = some (.bool zb) := cell_kept z2 hB8
                  clear hB8 hO8 hg8)
               | (go_simp; go_at_call 80; (with_reducible refine (HNT.out _).mono ?_); rintro e w9 ⟨g9, c9, rfl, hB9, hO9, hg9⟩
                  have HJ9 := Lib.hid (HJ8.out.keep hB9)
                  have HSB9 := Lib.hid (HSB8.out.keep hB9)
                  have HS89 := Lib.hid (HS8.out.keep hB9)
                  have HS9 := Lib.hid hO9.src5
                  have m5 : w9.cell? ⟨wp.heap.size, 2, none⟩ = some (.bool zb) := cell_kept i5 hB9
                  clear hB9 hO9 hg9)
               | (go_simp; go_at_call 82; (with_reducible refine (HNB.out _).mono ?_); rintro e w10 ⟨g10, c10, rfl, hB10, hO10, hg10⟩
                  have HJ10 := Lib.hid ((HJ9.out.keep hB10).keep (below1 w10 (.cells #[.slice (some ⟨gv, 0, none⟩) L.length cv, .slice (some ⟨g8, 0, none⟩) (textB zn).length c8, .slice (some ⟨g9, 0, none⟩) N2.length c9, .slice (some ⟨g10, 0, none⟩) N3.length c10] 55)))
                  have HSB10 := Lib.hid ((HSB9.out.keep hB10).keep (below1 w10 (.cells #[.slice (some ⟨gv, 0, none⟩) L.length cv, .slice (some ⟨g8, 0, none⟩) (textB zn).length c8, .slice (some ⟨g9, 0, none⟩) N2.length c9, .slice (some ⟨g10, 0, none⟩) N3.length c10] 55)))
                  have HS810 := Lib.hid ((HS89.out.keep hB10).keep (below1 w10 (.cells #[.slice (some ⟨gv, 0, none⟩) L.length cv, .slice (some ⟨g8, 0, none⟩) (textB zn).length c8, .slice (some ⟨g9, 0, none⟩) N2.length c9, .slice (some ⟨g10, 0, none⟩) N3.length c10] 55)))
                  have HS910 := Lib.hid ((HS9.out.keep hB10).keep (below1 w10 (.cells #[.slice (some ⟨gv, 0, none⟩) L.length cv, .slice (some ⟨g8, 0, none⟩) (textB zn).length c8, .slice (some ⟨g9, 0, none⟩) N2.length c9, .slice (some ⟨g10, 0, none⟩) N3.length c10] 55)))
                  have HS10 := Lib.hid (hO10.src5.keep (below1 w10 (.cells #[.slice (some ⟨gv, 0, none⟩) L.length cv, .slice (some ⟨g8, 0, none⟩) (textB zn).length c8, .slice (some ⟨g9, 0, none⟩) N2.length c9, .slice (some ⟨g10, 0, none⟩) N3.length c10] 55)))
                  clear hB10 hO10 hg10)
               | (go_simp; go_at_call 78; (with_reducible refine (HCAT.out _ _ _ _ _ _ _ _ _ _ HSB10.out HS810.out HS910.out HS10.out (heap_alloc_new _ _)).mono ?_); rintro e w11 ⟨g11, c11, rfl, hB11, hO11, hg11⟩
                  have HO11 := Lib.hid (show OwnB w11 w4.heap.size _ _ from hO11.le HJ10.out.ens.hH)
                  have HJ11 := Lib.hid (HJ10.out.keep hB11)
                  clear hB11 hO11 hg11)
               | fail)
             all_goals
               go_wp2_with fail
               go_roundw
               case rel => exact ⟨j + 1, L2, g11, c11, by omega, by go_num, rfl, HL2, Lib.hid ⟨HJ11.out.ens, HO11.out, HJ11.out.box, HJ11.out.hxb⟩⟩
               case measure => simp [intOf] <;> omega
           · obtain rfl : j = pn := by omega
             have HL3 := Lib.hid (show L = numB cl.length ++ colsB cl by rw [HL.out, HPN.out, List.take_length])
             obtain ⟨N3, hN3⟩ : ∃ N3, N3 = numB xr.toNat := ⟨_, rfl⟩
             obtain ⟨N4, hN4⟩ : ∃ N4, N4 = intB xo := ⟨_, rfl⟩
             obtain ⟨N5, hN5⟩ : ∃ N5, N5 = intB xu := ⟨_, rfl⟩
             obtain ⟨L4, hL4⟩ : ∃ L4, L4 = L ++ (N3 ++ (N4 ++ N5)) := ⟨_, rfl⟩
             have HN3 := Lib.hid (show ∀ W : World, Calls Tryz.prog 80 #[.int .u64 xr] W fun e w' => ∃ g cap, e = .returned (.slice (some ⟨g, 0, none⟩) N3.length cap) ∧ Below W.heap.size W w' ∧ OwnB w' W.heap.size (.slice (some ⟨g, 0, none⟩) N3.length cap) N3 ∧ W.heap.size ≤ g from fun W => by rw [hN3]; exact HNM.out xr W HXR.out.1 (by have := HXR.out.2; omega))
             have HN4 := Lib.hid (show ∀ W : World, Calls Tryz.prog 81 #[.int .i64 xo] W fun e w' => ∃ g cap, e = .returned (.slice (some ⟨g, 0, none⟩) N4.length cap) ∧ Below W.heap.size W w' ∧ OwnB w' W.heap.size (.slice (some ⟨g, 0, none⟩) N4.length cap) N4 ∧ W.heap.size ≤ g from fun W => by rw [hN4]; exact HIN.out xo W HXO.out.1 HXO.out.2)
             have HN5 := Lib.hid (show ∀ W : World, Calls Tryz.prog 81 #[.int .i64 xu] W fun e w' => ∃ g cap, e = .returned (.slice (some ⟨g, 0, none⟩) N5.length cap) ∧ Below W.heap.size W w' ∧ OwnB w' W.heap.size (.slice (some ⟨g, 0, none⟩) N5.length cap) N5 ∧ W.heap.size ≤ g from fun W => by rw [hN5]; exact HIN.out xu W HXU.out.1 HXU.out.2)
             have HCAT := Lib.hid (show ∀ (g1 c1 g2 c2 g3 c3 g4 c4 sb : Nat) (W : World), Src5 W g1 L → Src5 W g2 N3 → Src5 W g3 N4 → Src5 W g4 N5 → W.heap[sb]? = some (.cells #[.slice (some ⟨g1, 0, none⟩) L.length c1, .slice (some ⟨g2, 0, none⟩) N3.length c2, .slice (some ⟨g3, 0, none⟩) N4.length c3, .slice (some ⟨g4, 0, none⟩) N5.length c4] 55) → Calls Tryz.prog 78 #[.slice (some ⟨sb, 0, none⟩) 4 4] W fun e w' => ∃ g cap, e = .returned (.slice (some ⟨g, 0, none⟩) L4.length cap) ∧ Below W.heap.size W w' ∧ OwnB w' W.heap.size (.slice (some ⟨g, 0, none⟩) L4.length cap) L4 ∧ W.heap.size ≤ g from fun g1 c1 g2 c2 g3 c3 g4 c4 sb W h1 h2 h3 h4 hb => by
               have hne : L ++ (N3 ++ (N4 ++ N5)) ≠ [] := by rw [hN3]; simp [numB_ne]
               rw [hL4]
               exact (cat_four (g1, c1, L) (g2, c2, N3) (g3, c3, N4) (g4, c4, N5) sb 4 W hb h1.src h2.src h3.src h4.src (List.length_pos_iff.2 hne) (by
                 have q1 := HLN.out
                 have q2 := num_len (z := xr) (by have := HXR.out.2; omega)
                 have q3 := intB_len HXO.out.1 HXO.out.2
                 have q4 := intB_len HXU.out.1 HXU.out.2
                 rw [← hN3] at q2
                 rw [← hN4] at q3
                 rw [← hN5] at q4
                 dsimp only
                 rw [List.length_append, List.length_append, List.length_append]
                 omega)).mono fun e w' h => h.src hne)
             have HL4 := Lib.hid (show L4 = (numB cl.length ++ colsB cl) ++ (numB xr.toNat ++ (intB xo ++ intB xu)) by rw [hL4, HL3.out, hN3, hN4, hN5])
             have HJ0 := Lib.hid (HJ.out.keep (Below.refl _ _).drew)
             have z3 : wp.drew.cell? ⟨wo.heap.size, 2, none⟩ = some (.int .i64 xr) := cell_of_row _ _ 2 _ _ _ HJ0.out.box
             have z4 : wp.drew.cell? ⟨wo.heap.size, 3, none⟩ = some (.int .i64 xo) := cell_of_row _ _ 3 _ _ _ HJ0.out.box
             have z5 : wp.drew.cell? ⟨wo.heap.size, 4, none⟩ = some (.int .i64 xu) := cell_of_row _ _ 4 _ _ _ HJ0.out.box
             have hw3 : IntKind.u64.wrap xr = xr := IntWalk.u64_in _ ⟨by have := HXR.out; omega, by have := HXR.out; omega⟩
             clear hN3 hN4 hN5 hL4
             go_upto_region 23 with (fail)
             go_cut [11, 71] from 71 to 123 (fun s11 s71 wc => s71 = .int .i64 (q : Int) ∧ ∃ g7 c7, s11 = .slice (some ⟨g7, 0, none⟩) L4.length c7 ∧ Hid (EnB w (some ⟨b, off, none⟩) n c ia k ic w4.heap.size _ (k + q) fs wo.heap.size #[.string xn, .slice xa j xc, .int .i64 xr, .int .i64 xo, .int .i64 xu] 25 (.slice (some ⟨g7, 0, none⟩) L4.length c7) L4 wc))
             case first =>
               have HSB := Lib.hid (show Src5 wp.drew gv L from HJ0.out.b.src5)
               go_region_law (first
                 | (go_simp; go_at_call 80; (with_reducible refine (HN3.out _).mono ?_); rintro e w8 ⟨g8, c8, rfl, hB8, hO8, hg8⟩
                    have HJ8 := Lib.hid (HJ0.out.keep hB8)
                    have HSB8 := Lib.hid (HSB.out.keep hB8)
                    have HS8 := Lib.hid hO8.src5
                    have i4 : w8.cell? ⟨wo.heap.size, 3, none⟩ = some (.int .i64 xo) := cell_kept z4 hB8
                    have i5 : w8.cell? ⟨wo.heap.size, 4, none⟩ = some (.int .i64 xu) := cell_kept z5 hB8
                    clear hB8 hO8 hg8)
                 | (go_simp; go_at_call 81; first
                    | (with_reducible refine (HN5.out _).mono ?_
                       have HX9 := HS9.out
                       rintro e w10 ⟨g10, c10, rfl, hB10, hO10, hg10⟩
                       have HJ10 := Lib.hid ((HJ9.out.keep hB10).keep (below1 w10 (.cells #[.slice (some ⟨gv, 0, none⟩) L.length cv, .slice (some ⟨g8, 0, none⟩) N3.length c8, .slice (some ⟨g9, 0, none⟩) N4.length c9, .slice (some ⟨g10, 0, none⟩) N5.length c10] 55)))
                       have HSB10 := Lib.hid ((HSB9.out.keep hB10).keep (below1 w10 (.cells #[.slice (some ⟨gv, 0, none⟩) L.length cv, .slice (some ⟨g8, 0, none⟩) N3.length c8, .slice (some ⟨g9, 0, none⟩) N4.length c9, .slice (some ⟨g10, 0, none⟩) N5.length c10] 55)))
                       have HS810 := Lib.hid ((HS89.out.keep hB10).keep (below1 w10 (.cells #[.slice (some ⟨gv, 0, none⟩) L.length cv, .slice (some ⟨g8, 0, none⟩) N3.length c8, .slice (some ⟨g9, 0, none⟩) N4.length c9, .slice (some ⟨g10, 0, none⟩) N5.length c10] 55)))
                       have HS910 := Lib.hid ((HX9.keep hB10).keep (below1 w10 (.cells #[.slice (some ⟨gv, 0, none⟩) L.length cv, .slice (some ⟨g8, 0, none⟩) N3.length c8, .slice (some ⟨g9, 0, none⟩) N4.length c9, .slice (some ⟨g10, 0, none⟩) N5.length c10] 55)))
                       have HS10 := Lib.hid (hO10.src5.keep (below1 w10 (.cells #[.slice (some ⟨gv, 0, none⟩) L.length cv, .slice (some ⟨g8, 0, none⟩) N3.length c8, .slice (some ⟨g9, 0, none⟩) N4.length c9, .slice (some ⟨g10, 0, none⟩) N5.length c10] 55)))
                       clear hB10 hO10 hg10)
                    | (with_reducible refine (HN4.out _).mono ?_
                       rintro e w9 ⟨g9, c9, rfl, hB9, hO9, hg9⟩
                       have HJ9 := Lib.hid (HJ8.out.keep hB9)
                       have HSB9 := Lib.hid (HSB8.out.keep hB9)
                       have HS89 := Lib.hid (HS8.out.keep hB9)
                       have HS9 := Lib.hid hO9.src5
                       have m5 : w9.cell? ⟨wo.heap.size, 4, none⟩ = some (.int .i64 xu) := cell_kept i5 hB9
                       clear hB9 hO9 hg9))
                 | (go_simp; go_at_call 78; (with_reducible refine (HCAT.out _ _ _ _ _ _ _ _ _ _ HSB10.out HS810.out HS910.out HS10.out (heap_alloc_new _ _)).mono ?_); rintro e w11 ⟨g11, c11, rfl, hB11, hO11, hg11⟩
                    have HO11 := Lib.hid (show OwnB w11 w4.heap.size _ _ from hO11.le HJ10.out.ens.hH)
                    have HJ11 := Lib.hid (HJ10.out.keep hB11)
                    clear hB11 hO11 hg11)
                 | fail)
               all_goals
                 go_wp2_with fail
                 go_meet
                 exact ⟨rfl, g11, c11, rfl, Lib.hid ⟨HJ11.out.ens, HO11.out, HJ11.out.box, HJ11.out.hxb⟩⟩
             case rest =>
               obtain ⟨rfl, g11, c11, rfl, HEF⟩ := hcut
               obtain ⟨w11, rfl⟩ : ∃ w11 : World, w11 = wc := ⟨_, rfl⟩
               clear z3 z4 z5 HCAT HN3 HN4 HN5 hw3
               obtain ⟨U, K, cp, w12, hK, hU, hcv, hB12, hS12⟩ := key_conv 116 xn w11
               have HB12 := Lib.hid hB12
               have HS12 := Lib.hid hS12
               have HK := Lib.hid (show (K, L4) = entT (ptOf (⟨xn, xa, cl.length, xc, xr, xo, xu⟩, cl)) by rw [hK, HL4.out]; rfl)
               have hadd : ∀ W, (Op.stringOp .add ⟨#[116]⟩ xn).run Tryz.prog W = .ok (.string U) W := fun W => by
                 rw [hU]
                 refine add_text W _ _ ?_
                 have h1 := HXN.out
                 have h3 : (⟨#[116]⟩ : ByteArray).size = 1 := rfl
                 omega
               have z0 := cell_of_row _ _ 0 _ _ _ HEF.out.box
               have HF12 := Lib.hid (((HEF.out.keep hB12).keep (below1 w12 (.cells #[.slice (some ⟨w11.heap.size, 0, none⟩) K.length cp, .slice (some ⟨g11, 0, none⟩) L4.length c11] 57))))
               have HKS := Lib.hid (hS12.keep (below1 w12 (.cells #[.slice (some ⟨w11.heap.size, 0, none⟩) K.length cp, .slice (some ⟨g11, 0, none⟩) L4.length c11] 57)))
               clear hK hU hB12 hS12
               go_wp2_with (first
                 | (at_builtin; refine list_ent _ rfl _ _ rfl (w.heap.size + 1) _ (k + q) (fs.map entL).flatten rfl HF12.out.ens.own w12.heap.size 1 ⟨w11.heap.size, cp, K, g11, c11, L4⟩ rfl (heap_alloc_new w12 _) ?c3 ?c4 ?_)
                 | fail)
               case c3 => omega
               case c4 => have h1 := HF12.out.ens.hH; have h2 := HF12.out.ens.hw; omega
               intro v' w13 hown hgrow hat
               have HMO := Lib.hid (HF12.out.ens.more HKS.out HF12.out.b.src5 hown hgrow)
               clear hown hgrow hat
               go_wp2_with fail
               go_roundw
               case rel => exact ⟨q + 1, fs ++ [⟨w11.heap.size, cp, K, g11, c11, L4⟩], _, by omega, by go_num, HMO, Lib.hid (by rw [← HXK.out, List.map_append, ← HK.out]; rfl)⟩
               case measure => simp [intOf] <;> omega
       · obtain rfl : q = n := by omega
         go_wp2_with fail
         go_ret
         have hlen := HF.out.len
         exact ⟨_, fs, rfl, HF.out.below, by rw [hlen]; exact HF.out.own, by rw [HFL.out, List.take_of_length_le (by rw [List.length_map, ← HN.out]; exact Nat.le_refl _)]; rfl, HF.out.lift.ok⟩
end Go.Proofs.YtcgpflkaejbkhaaGreatDoor
