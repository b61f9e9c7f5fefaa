/- Ahead of the walk of Read: an entry's key cut, the pass's kinds, the answers of one. -/
import Derived.Test.YtcgpflkaejbkhaaGreatDoorQBN
import Derived.Test.YtcgpflkaejbkhaaGreatDoorQBK
import Derived.Test.YtcgpflkaejbkhaaGreatDoorQBL
import Derived.Test.YtcgpflkaejbkhaaGreatDoorQBH
import Derived.Lib.SlBytesConst
import Derived.Test.YtcgpflkaejbkhaaGreatDoorQAI
import Derived.Test.YtcgpflkaejbkhaaGreatDoorQAY
namespace Go.Proofs.YtcgpflkaejbkhaaGreatDoor
open Go.RowKit

theorem cut_key (A : Option Addr) (ch : UInt8) (r : List UInt8) (kc : Nat) : ∃ A2 k2, (∀ W, (Instr.slice 55 (.slice A (ch :: r).length kc) (some (.int .i64 1)) none none).run Tryz.prog W = .ok (.slice A2 r.length k2) W) ∧ ∀ W, BtAt W A (ch :: r) → (ch :: r).length ≤ kc → BtAt W A2 r := by
 refine ⟨if kc = 1 then A else A.map (·.add (1 * 1)), kc - 1, fun W => ?_, fun W hb hc => ?_⟩
 · have hs : (sizeOf (Tryz.prog.elem 55)).run Tryz.prog W = .ok 1 W := by kernel_rfl
   rw [run_slice_l (P := Tryz.prog) (w := W) 55 A (ch :: r).length kc (by kernel_rfl) .i64 1 (by omega) (by simp; omega), hs]
   unfold Result.andThen sliced
   simp
 · have hr : r.length ≤ maxLen := by have := hb.1; simp at this; omega
   split
   · rename_i h1
     have : r = [] := by
       apply List.eq_nil_of_length_eq_zero
       simp only [List.length_cons] at hc
       omega
     rw [this]
     exact BtAt.nil W A
   · rcases hb.2 with h0 | ⟨g, off, rfl, h2, h3⟩
     · cases h0
     · refine ⟨hr, Or.inr ⟨g, off + 1, rfl, h2, fun i c hc => ?_⟩⟩
       have h := h3 (i + 1) c hc
       rwa [show off + (i + 1) = off + 1 + i by omega] at h
theorem key_cell {W : World} {A : Option Addr} {ch : UInt8} {r : List UInt8} (hb : BtAt W A (ch :: r)) : ∃ g off, A = some ⟨g, off, none⟩ ∧ g < W.heap.size ∧ W.cell? ⟨g, off, none⟩ = some (byV ch) := by
 rcases hb.2 with h0 | ⟨g, off, h1, h2, h3⟩
 · cases h0
 · exact ⟨g, off, h1, h2, h3 0 ch rfl⟩
def TI (w W : World) : Prop := W.heap[w.heap.size + 2]? = some (.cells #[.int .u8 116, .int .u8 105] 5 (2, 3))
theorem TI.keep {w W W' : World} (h : TI w W) (hB : Below W.heap.size W W') : TI w W' := (hB.block _ (heap_lt h)).trans h
theorem TI.set {w W : World} (h : TI w W) (b j : Nat) (v : Value) (hb : b < w.heap.size + 2) : TI w (W.setCell ⟨b, j, none⟩ v) := (heap_set_other2 W v (by omega)).trans h
def oneK (q : Nat) (s : Sch) (nm : ByteArray) (v : List UInt8) : Option Sch := if q = 0 then oneT s.1 s.2 nm (some v) else oneX s.1 s.2 nm (some v)
theorem stp_kind {q : Nat} {s : Sch} {p : List UInt8 × List UInt8} {r : List UInt8} (h : p.1 = kindOf q :: r) : stepE (kindOf q) s p = oneK q s (sB r) p.2 := by
 unfold oneK
 by_cases hq : q = 0
 · subst hq; exact (stp_tab h).trans (if_pos rfl).symm
 · have hk : kindOf q = 105 := if_neg hq
   rw [hk] at h ⊢
   rw [stp_idx h, if_neg hq]
def kz (q : Nat) : Int := if q = 0 then 116 else 105
theorem one_kind (q : Nat) (m : Int) (gt : Nat → Nat) (ht : ∀ j, j < 23 → finD (Ieee.double.read (gt j)) = true) (A : Option Addr) (c : Nat) (ts : List (Tab × List Col)) (ia : Option Addr) (ic : Nat) (xs : List (Idx × List Int)) (nm : ByteArray) (vA : Option Addr) (vc : Nat) (val : List UInt8) (w : World) (hG : Glob m gt w) (hS : ReadS w A ia ts xs) (hv : BtAt w vA val) (hvl : val.length ≤ 1000) :
   Calls Tryz.prog 49 #[.agg #[.slice A ts.length c, .slice ia xs.length ic], .int .u8 (kz q), .string nm, .slice vA val.length vc] w (EntP w (oneK q (ts.map ptOf, xs.map pxOf) nm val)) := by
 unfold oneK kz
 by_cases hq : q = 0
 · rw [if_pos hq, if_pos hq]; exact one_tab m gt ht A c ts ia ic xs nm vA vc val w hG hS hv hvl
 · rw [if_neg hq, if_neg hq]; exact one_idx m gt ht A c ts ia ic xs nm vA vc val w hG hS hv hvl
theorem entp_none {w : World} {e : Ending} {w' : World} (h : EntP w none e w') : Below w.heap.size w w' ∧ ∃ (p1 : Option Addr) (p2 p3 : Nat) (p4 : Option Addr) (p5 p6 : Nat) (er : Int), er ≠ 0 ∧ e = .returned (.tuple #[.agg #[.slice p1 p2 p3, .slice p4 p5 p6], .int .i64 er]) := by
 obtain ⟨hB, h⟩ := h
 rcases h with ⟨_, h⟩ | ⟨A, ia, c, ic, h9, ts, xs, h1, _⟩
 · exact ⟨hB, h⟩
 · cases h1
theorem entp_some {w : World} {s : Sch} {e : Ending} {w' : World} (h : EntP w (some s) e w') (hO : OkS s) : Below w.heap.size w w' ∧ ∃ (A ia : Option Addr) (c ic : Nat) (ts : List (Tab × List Col)) (xs : List (Idx × List Int)), s = (ts.map ptOf, xs.map pxOf) ∧ e = .returned (.tuple #[.agg #[.slice A ts.length c, .slice ia xs.length ic], .int .i64 0]) ∧ ReadS w' A ia ts xs := by
 obtain ⟨hB, h⟩ := h
 rcases h with ⟨h0, _⟩ | ⟨A, ia, c, ic, h9, ts, xs, h1, h2, h3⟩
 · cases h0
 · cases h1
   have hl := hO.lens
   obtain ⟨r1, r2, r3, r4⟩ := h3.readP rfl rfl hl.1 hl.2
   refine ⟨hB, A, ia, c, ic, ts, xs, rfl, h2, ⟨r1, r2, hl.1, hl.2, ?_, ?_⟩⟩
   · exact r3
   · exact r4
theorem entT_len {t : PT} (h : OkT t) : (entT t).1.length ≤ 1000 ∧ (entT t).2.length ≤ 5000 := by
 have h1 := h.name
 have h2 := colsB_len h.cols
 have h3 := h.len
 have h4 := num_len (z := t.cols.length) (by omega)
 have h5 := num_len (z := t.root) (by have := h.root; omega)
 have h6 := intB_len h.next.1 h.next.2
 have h7 := intB_len h.rows.1 h.rows.2
 have h8 : t.name.data.toList.length = t.name.size := Array.length_toList
 rw [show ((t.cols.length : Int)).toNat = t.cols.length by omega] at h4
 unfold entT
 simp only [List.length_cons, List.length_append]
 omega
theorem entX_len {x : PX} (h : OkX x) : (entX x).1.length ≤ 1000 ∧ (entX x).2.length ≤ 5000 := by
 have h1 := h.name
 have h2 := plB_len h.places
 have h3 := h.len
 have h4 := num_len (z := x.places.length) (by omega)
 have h5 := num_len (z := x.root) (by have := h.root; omega)
 have h6 := num_len (z := x.state) (by have := h.state; omega)
 have h7 := intB_len h.cursor.1 h.cursor.2
 have h9 := textB_len h.table
 have h8 : x.name.data.toList.length = x.name.size := Array.length_toList
 rw [show ((x.places.length : Int)).toNat = x.places.length by omega] at h4
 unfold entX
 simp only [List.length_cons, List.length_append]
 omega
theorem entsP_len {s : Sch} (h : OkS s) : ∀ p ∈ entsP s.1 s.2, p.1.length ≤ 1000 ∧ p.2.length ≤ 5000 := fun p hp => by
 unfold entsP at hp
 rw [List.mem_append, List.mem_map, List.mem_map] at hp
 rcases hp with ⟨x, hx, rfl⟩ | ⟨x, hx, rfl⟩
 · exact entX_len (h.x x hx)
 · exact entT_len (h.t x hx)
def eiV (x : EntV) : EntI := ⟨some ⟨x.ka, 0, none⟩, x.kc, x.key, some ⟨x.va, 0, none⟩, x.vc, x.val⟩
theorem Src5.btAt {W : World} {g : Nat} {l : List UInt8} (h : Src5 W g l) (hl : l.length ≤ maxLen) : BtAt W (some ⟨g, 0, none⟩) l :=
 ⟨hl, Or.inr ⟨g, 0, rfl, h.lt, fun i c hc => by rw [Nat.zero_add]; exact h.2 i c hc⟩⟩
theorem ents_out {w : World} {M : Ens} {e : Ending} {w' : World} (h : EntsP w M e w') (hM : ∀ p ∈ M, p.1.length ≤ 1000 ∧ p.2.length ≤ 5000) : ∃ (A : Option Addr) (c : Nat) (es : List EntI), e = .returned (.slice A es.length c) ∧ Below w.heap.size w w' ∧ EntsAt w' A es ∧ es.map eiP = M := by
 obtain ⟨v, es, rfl, hB, hown, hm, hok⟩ := h
 obtain ⟨A, c, rfl, _, hC, _, _⟩ := own_cells hown (fun x hx => by obtain ⟨p, _, rfl⟩ := List.mem_map.1 hx; rfl) (by rw [List.length_map])
 refine ⟨A, c, es.map eiV, by rw [List.length_map], hB, ⟨by rw [List.map_map]; exact hC, fun e he => ?_⟩, by rw [List.map_map]; exact hm⟩
 obtain ⟨x, hx, rfl⟩ := List.mem_map.1 he
 have hl := hM (entP x) (by rw [← hm]; exact List.mem_map_of_mem hx)
 obtain ⟨_, _, h3, h4⟩ := hok x hx
 have e1 : x.key.length ≤ maxLen := Nat.le_trans hl.1 (by unfold maxLen; omega)
 have e2 : x.val.length ≤ maxLen := Nat.le_trans hl.2 (by unfold maxLen; omega)
 exact ⟨h3.btAt e1, h4.btAt e2⟩
end Go.Proofs.YtcgpflkaejbkhaaGreatDoor
namespace Go.Proofs.YtcgpflkaejbkhaaGreatDoor
open Go.RowKit

theorem kz_num (q : Nat) : byV (kindOf q) = .int .u8 (kz q) := by
 unfold kindOf kz
 by_cases hq : q = 0
 · rw [if_pos hq, if_pos hq]; rfl
 · rw [if_neg hq, if_neg hq]; rfl
theorem ent_at {w : World} {B : Option Addr} {es : List EntI} (h : EntsAt w B es) {k : Nat} {e : EntI} (hk : es[k]? = some e) : ∃ b off, B = some ⟨b, off, none⟩ ∧ b < w.heap.size ∧ w.cell? ⟨b, off + k * 2, none⟩ = some (.slice e.ka e.key.length e.kc) ∧ w.cell? ⟨b, off + k * 2 + 1, none⟩ = some (.slice e.va e.val.length e.vc) ∧ EI w e := by
 have hk2 : (es.map eiL)[k]? = some (eiL e) := by rw [List.getElem?_map, hk]; rfl
 have he := h.2 e (List.mem_of_getElem? hk)
 rcases h.1.2 with h0 | ⟨b, off, h1, h2, h3⟩
 · rw [h0] at hk2; cases hk2
 · exact ⟨b, off, h1, h2, (h3 k _ hk2).2 0 _ rfl, (h3 k _ hk2).2 1 _ rfl, he⟩
structure KR (wp : World) (x y : Value) (W : World) : Prop where
 far : Below wp.heap.size wp W
 box : W.heap[wp.heap.size]? = some (.cells #[x, y] 57)
theorem KR.keep {wp : World} {x y : Value} {W W' : World} (h : KR wp x y W) (hB : Below W.heap.size W W') : KR wp x y W' :=
 ⟨h.far.trans (hB.mono h.far.size), (hB.block _ (heap_lt h.box)).trans h.box⟩
theorem KR.set {wp : World} {x y : Value} {W : World} (h : KR wp x y W) (b j : Nat) (v : Value) (hb : wp.heap.size < b) : KR wp x y (W.setCell ⟨b, j, none⟩ v) :=
 ⟨h.far.setCell (p := ⟨b, j, none⟩) (Nat.le_of_lt hb) v, (heap_set_other2 W v (by omega)).trans h.box⟩
theorem KR.start (wp : World) (x y : Value) : KR wp x y (wp.alloc (.cells #[x, y] 57)).drew :=
 ⟨(below1 wp _).drew, (((Below.refl (wp.heap.size + 1) (wp.alloc (.cells #[x, y] 57))).drew).block wp.heap.size (Nat.lt_succ_self _)).trans (heap_alloc_new wp _)⟩
theorem KR.start2 (wp : World) (x y : Value) (O : Obj) : KR wp x y ((wp.alloc (.cells #[x, y] 57)).alloc O).drew :=
 ⟨((below1 wp _).alloc (by simp) O).drew, (((Below.refl (wp.heap.size + 1) ((wp.alloc (.cells #[x, y] 57)).alloc O)).drew).block wp.heap.size (Nat.lt_succ_self _)).trans ((heap_alloc_old _ _ (by simp)).trans (heap_alloc_new wp _))⟩
theorem sxR {w wp W : World} {A : Option Addr} {c : Nat} {ts : List (Tab × List Col)} {ia : Option Addr} {ic : Nat} {xs : List (Idx × List Int)} {x y : Value} {A2 : Option Addr} {n2 k2 : Nat} {s : ByteArray} (hK : DK w A c ts ia ic xs wp) (hcv : ∀ W, Below wp.heap.size wp W → (convert 55 9 (.slice A2 n2 k2)).run Tryz.prog W = .ok (.string s) W) (h : KR wp x y W) : W.cell? ⟨w.heap.size + 1, 0, none⟩ = some (.slice A ts.length c) ∧ W.cell? ⟨w.heap.size + 1, 1, none⟩ = some (.slice ia xs.length ic) ∧ W.cell? ⟨wp.heap.size, 0, none⟩ = some x ∧ W.cell? ⟨wp.heap.size, 1, none⟩ = some y ∧ (convert 55 9 (.slice A2 n2 k2)).run Tryz.prog W = .ok (.string s) W :=
 ⟨cell_of_row _ _ 0 _ _ _ (hK.keep h.far).box, cell_of_row _ _ 1 _ _ _ (hK.keep h.far).box, cell_of_row _ _ 0 _ _ _ h.box, cell_of_row _ _ 1 _ _ _ h.box, hcv W h.far⟩
theorem DK.put {w wp W : World} {A : Option Addr} {c : Nat} {ts : List (Tab × List Col)} {ia : Option Addr} {ic : Nat} {xs : List (Idx × List Int)} (hK : DK w A c ts ia ic xs wp) (hB : Below wp.heap.size wp W) {A2 : Option Addr} {c2 : Nat} {ts2 : List (Tab × List Col)} {ia2 : Option Addr} {ic2 : Nat} {xs2 : List (Idx × List Int)} (hS : ReadS W A2 ia2 ts2 xs2) {b : Nat} {p1 p4 : Option Addr} {p2 p3 p5 p6 : Nat} (hb : W.heap[b]? = some (.cells #[.slice p1 p2 p3, .slice p4 p5 p6] 36)) (hbw : wp.heap.size < b) :
   DK w A2 c2 ts2 ia2 ic2 xs2 ((((W.setCell ⟨b, 0, none⟩ (.slice A2 ts2.length c2)).setCell ⟨b, 1, none⟩ (.slice ia2 xs2.length ic2)).setCell ⟨w.heap.size + 1, 0, none⟩ (.slice A2 ts2.length c2)).setCell ⟨w.heap.size + 1, 1, none⟩ (.slice ia2 xs2.length ic2)) := by
 obtain ⟨h1, h2, h3, h4, h5, h6⟩ := hS
 obtain ⟨g1, g2, g3, g4⟩ := ReadP.setBox (W := W) ⟨h1, h2, h5, h6⟩ hb A2 ts2.length c2 (.slice ia2 xs2.length ic2)
 have hf : Below wp.heap.size wp ((W.setCell ⟨b, 0, none⟩ (.slice A2 ts2.length c2)).setCell ⟨b, 1, none⟩ (.slice ia2 xs2.length ic2)) := (hB.setCell (p := ⟨b, 0, none⟩) (Nat.le_of_lt hbw) _).setCell (p := ⟨b, 1, none⟩) (Nat.le_of_lt hbw) _
 exact (hK.keep hf).set ⟨g1, g2, h3, h4, g3, g4⟩
theorem DK.badA {w W : World} {A : Option Addr} {c : Nat} {ts : List (Tab × List Col)} {ia : Option Addr} {ic : Nat} {xs : List (Idx × List Int)} (h : DK w A c ts ia ic xs W) (a b : Value) (O : Obj) : Below w.heap.size w (((W.setCell ⟨w.heap.size, 0, none⟩ a).setCell ⟨w.heap.size, 1, none⟩ b).alloc O) :=
 (h.bad a b).alloc (by have := h.below.size; simp; omega) O
theorem box_keep {W W' : World} {b : Nat} {o : Obj} (h : W.heap[b]? = some o) (hB : Below W.heap.size W W') : W'.heap[b]? = some o := (hB.block _ (heap_lt h)).trans h
set_option maxRecDepth 100000 in
set_option maxHeartbeats 16000000 in
theorem sread_any (m : Int) (gt : Nat → Nat) (ht : ∀ j, j < 23 → finD (Ieee.double.read (gt j)) = true) (B : Option Addr) (d : Nat) (es : List EntI) (w : World) (hG : Glob m gt w) (hL : EntsAt w B es) (hlen : es.length ≤ 1000) (hkc : ∀ p ∈ es, p.key.length ≤ p.kc) (hsz : ∀ p ∈ es, p.key.length ≤ 900 ∧ p.val.length ≤ 1000) :
   Calls Tryz.prog 24 #[.slice B es.length d] w (ReadZ w (readF (es.map eiP))) := by
 obtain ⟨n, hn⟩ : ∃ n, n = es.length := ⟨_, rfl⟩
 obtain ⟨L, hLL⟩ : ∃ L, L = es.map eiP := ⟨_, rfl⟩
 have HEQ := Lib.hid (show ∀ (A : Option Addr) (c : Nat) (l : List EntI) W, Below w.heap.size w W → EntsAt W A l → Calls Tryz.prog 50 #[.slice A l.length c, .slice B n d, .func (.func 52) #[] #[]] W (RetV (.bool (decide (l.map eiP = L))) W) from fun A c l W hB hl => by rw [hn, hLL]; exact eq_ents A c l B d es W hl (hL.keep hB))
 rw [← hn, ← hLL]
 rw [← hn] at hlen
 have HN := Lib.hid hn
 have HL := Lib.hid hL
 have HLL := Lib.hid hLL
 have HG := Lib.hid hG
 have HSZ := Lib.hid hsz
 have HKC := Lib.hid hkc
 have HT := Lib.hid ht
 obtain ⟨R, hR⟩ : ∃ R, R = readF L := ⟨_, rfl⟩
 rw [← hR]
 have HR := Lib.hid hR
 clear hn hL hG hsz hR ht hLL hkc
 have HK0 := Lib.hid (show DK w none 0 [] none 0 [] (((w.alloc (.cells #[.slice none 0 0, .slice none 0 0] 36)).alloc (.cells #[.slice none 0 0, .slice none 0 0] 36)).alloc (.cells #[.int .u8 116, .int .u8 105] 5 (2, 3))) from by
   refine ⟨((below1 w _).alloc (by simp) _).alloc (by simp; omega) _, ?_, ?_, ?_⟩
   · rw [heap_alloc_old _ _ (by simp; omega), heap_alloc_old _ _ (by simp)]; exact heap_alloc_new w _
   · rw [heap_alloc_old _ _ (by simp)]
     have h := heap_alloc_new (w.alloc (.cells #[.slice none 0 0, .slice none 0 0] 36)) (.cells #[.slice none 0 0, .slice none 0 0] 36)
     rwa [World.size_alloc] at h
   · exact ⟨⟨⟨Nat.zero_le _, Or.inl rfl⟩, fun p hp => (List.not_mem_nil hp).elim⟩, ⟨⟨Nat.zero_le _, Or.inl rfl⟩, fun p hp => (List.not_mem_nil hp).elim⟩, Nat.zero_le _, Nat.zero_le _, fun p hp => (List.not_mem_nil hp).elim, fun p hp => (List.not_mem_nil hp).elim⟩)
 have HTI0 := Lib.hid (show TI w (((w.alloc (.cells #[.slice none 0 0, .slice none 0 0] 36)).alloc (.cells #[.slice none 0 0, .slice none 0 0] 36)).alloc (.cells #[.int .u8 116, .int .u8 105] 5 (2, 3))) from by
   unfold TI
   have h := heap_alloc_new ((w.alloc (.cells #[.slice none 0 0, .slice none 0 0] 36)).alloc (.cells #[.slice none 0 0, .slice none 0 0] 36)) (.cells #[.int .u8 116, .int .u8 105] 5 (2, 3))
   rwa [World.size_alloc, World.size_alloc] at h)
 have kc := Lib.run_convert_bytes_const (P := Tryz.prog) ((w.alloc (.cells #[.slice none 0 0, .slice none 0 0] 36)).alloc (.cells #[.slice none 0 0, .slice none 0 0] 36)) 55 5 #[.int .u8 116, .int .u8 105] 2 2 Tryz.underlying55 Tryz.underlying5
 rw [World.size_alloc, World.size_alloc] at kc
 go_enter Tryz.func24, Tryz.ntmps24
 go_wp2_with fail
 go_loopw [14] (fun i wr => ∃ (q : Nat) (A : Option Addr) (c : Nat) (ts : List (Tab × List Col)) (ia : Option Addr) (ic : Nat) (xs : List (Idx × List Int)), q ≤ 2 ∧ i = .int .i64 q ∧ Hid (prog L q = some (ts.map ptOf, xs.map pxOf)) ∧ Hid (DK w A c ts ia ic xs wr) ∧ Hid (TI w wr)) (fun i _ => 2 - (intOf i).toNat)
 case atStart => exact ⟨0, none, 0, [], none, 0, [], Nat.zero_le _, rfl, Lib.hid rfl, HK0, HTI0⟩
 case round =>
   clear HK0 HTI0
   obtain ⟨q, A, c, ts, ia, ic, xs, hq, rfl, HP, HK, HTI⟩ := hrel
   obtain ⟨wo, rfl⟩ : ∃ wo : World, wo = wr := ⟨_, rfl⟩
   by_cases hlt : q < 2
   · have q1 : ((q : Int) < 2) = True := eq_true (by omega)
     have hti : wo.cell? ⟨w.heap.size + 2, q, none⟩ = some (.int .u8 (kz q)) := by
       have h := HTI.out
       match q, hlt with
       | 0, _ => exact cell_of_row _ _ 0 _ _ _ h
       | 1, _ => exact cell_of_row _ _ 1 _ _ _ h
     obtain ⟨z, hz⟩ : ∃ z, z = kz q := ⟨_, rfl⟩
     rw [← hz] at hti
     have HZ := Lib.hid hz
     clear hz
     go_wp2_with fail
     go_loopw [20] (fun i wr => ∃ (j : Nat) (A : Option Addr) (c : Nat) (ts : List (Tab × List Col)) (ia : Option Addr) (ic : Nat) (xs : List (Idx × List Int)), j ≤ n ∧ i = .int .i64 j ∧ Hid (∃ s0, prog L q = some s0 ∧ passE (kindOf q) s0 (L.take j) = some (ts.map ptOf, xs.map pxOf)) ∧ Hid (DK w A c ts ia ic xs wr) ∧ Hid (TI w wr)) (fun i _ => n - (intOf i).toNat)
     case atStart => exact ⟨0, A, c, ts, ia, ic, xs, Nat.zero_le _, rfl, Lib.hid ⟨_, HP.out, rfl⟩, HK, HTI⟩
     case round =>
       clear HK HP HTI hti
       obtain ⟨j, A, c, ts, ia, ic, xs, hj, rfl, HP, HK, HTI⟩ := hrel
       obtain ⟨wp, rfl⟩ : ∃ wp : World, wp = wr := ⟨_, rfl⟩
       by_cases hjl : j < n
       · have hjn : ((j : Int) < (n : Int)) = True := eq_true (by omega)
         obtain ⟨p, hp⟩ : ∃ p, es[j]? = some p := ⟨_, List.getElem?_eq_getElem (by have := HN.out; omega)⟩
         obtain ⟨b, off, rfl, hb, k0, k1, hE⟩ := ent_at (HL.out.keep HK.out.below) hp
         have hpz := HSZ.out p (List.mem_of_getElem? hp)
         have HPC := Lib.hid (HKC.out p (List.mem_of_getElem? hp))
         have hLp : L[j]? = some (eiP p) := by rw [HLL.out, List.getElem?_map, hp]; rfl
         have HBAD := Lib.hid (show stepE (kindOf q) (ts.map ptOf, xs.map pxOf) (eiP p) = none → R = none from fun h => by
           obtain ⟨s0, h1, h2⟩ := HP.out
           rw [HR.out]
           exact prog_fail hlt h1 h2 hLp h)
         have HNX := Lib.hid (show ∀ s, stepE (kindOf q) (ts.map ptOf, xs.map pxOf) (eiP p) = some s → ∃ s0, prog L q = some s0 ∧ passE (kindOf q) s0 (L.take (j + 1)) = some s from fun s h => by
           obtain ⟨s0, h1, h2⟩ := HP.out
           exact ⟨s0, h1, pass_next h2 hLp h⟩)
         have z0 := cell_of_row _ _ 0 _ _ _ HK.out.ans
         have z1 := cell_of_row _ _ 1 _ _ _ HK.out.ans
         have y0 := frozen_of_row _ _ 0 _ _ HK.out.ans
         have y1 := frozen_of_row _ _ 1 _ _ HK.out.ans
         have hza := heap_lt HK.out.ans
         have hzb := heap_lt HK.out.box
         have hx1 : w.heap.size ≠ wp.heap.size + 1 := by omega
         have hx2 : wp.heap.size + 1 ≠ w.heap.size := by omega
         obtain ⟨ka, kc, key, va, vc, val⟩ := p
         dsimp only at k0 k1 hpz
         clear hp hLp
         have HK1 := fun O => Lib.hid (HK.out.keep (below1 wp O))
         have HTI1 := fun O => Lib.hid (HTI.out.keep (below1 wp O))
         have HKD := fun O => Lib.hid (HK.out.keep (below1 wp O).drew)
         have HTID := fun O => Lib.hid (HTI.out.keep (below1 wp O).drew)
         cases key with
         | nil =>
           have HRN := Lib.hid (HBAD.out (stp_nil rfl))
           have k0' : wp.cell? ⟨b, off + j * 2, none⟩ = some (.slice ka 0 kc) := k0
           clear k0
           go_wp2_with fail
           refine bodyPost_ret (v := .tuple #[.agg #[.slice none 0 0, .slice none 0 0], .int .i64 7]) (by simp [results, Tryz.results24, go_sem, z0, z1, hza]) rfl ⟨HK.out.badA _ _ _, Or.inl ⟨HRN.out, rfl⟩⟩
         | cons ch r =>
           obtain ⟨kn, hkn⟩ : ∃ kn, kn = (ch :: r).length := ⟨_, rfl⟩
           obtain ⟨A2, k2, hcut, hkey⟩ := cut_key ka ch r kc
           have HE := Lib.hid hE
           obtain ⟨g, koff, rfl, hg, g1⟩ := key_cell hE.k
           have hkn0 : 0 < kn := by rw [hkn]; simp
           have hkn1 : ((kn : Int) == 0) = false := by simp; omega
           have hkn2 : ((kn : Int) = 0) = False := eq_false (by omega)
           rw [← hkn] at k0 hcut hpz
           have HKN := Lib.hid hkn
           clear hkn hE
           by_cases hk : ch = kindOf q
           · subst hk
             rw [kz_num, ← HZ.out] at g1
             obtain ⟨O, hO⟩ : ∃ O, O = oneK q (ts.map ptOf, xs.map pxOf) (sB r) val := ⟨_, rfl⟩
             have HST := Lib.hid (show stepE (kindOf q) (ts.map ptOf, xs.map pxOf) (kindOf q :: r, val) = O from by rw [hO]; exact stp_kind rfl)
             have HONE := Lib.hid (show ∀ W, Below wp.heap.size wp W → Calls Tryz.prog 49 #[.agg #[.slice A ts.length c, .slice ia xs.length ic], .int .u8 z, .string (sB r), .slice va val.length vc] W (EntP W O) from fun W hB => by
               rw [hO, HZ.out]
               exact one_kind q m gt HT.out A c ts ia ic xs (sB r) va vc val W (HG.out.keep (HK.out.below.trans (hB.mono HK.out.below.size))) (HK.out.sch.keep hB) (HE.out.v.keep hB) hpz.2)
             have hcv : ∀ W, Below wp.heap.size wp W → (convert 55 9 (.slice A2 r.length k2)).run Tryz.prog W = .ok (.string (sB r)) W := fun W hB => (hkey W (HE.out.k.keep hB) HPC.out).conv k2
             have HCV := Lib.hid hcv
             have hcv1 : ∀ x y, (convert 55 9 (.slice A2 r.length k2)).run Tryz.prog (wp.alloc (.cells #[x, y] 57)).drew = .ok (.string (sB r)) (wp.alloc (.cells #[x, y] 57)).drew := fun x y => hcv _ (below1 _ _).drew
             have HZ2 := HZ.out
             clear hcv hO hpz
             obtain ⟨vn, hvn⟩ : ∃ vn, vn = val.length := ⟨_, rfl⟩
             rw [← hvn] at k1 HONE
             clear hvn
             have g2 : ∀ x y, (wp.alloc (.cells #[x, y] 57)).cell? ⟨g, koff, none⟩ = some (.int .u8 z) := fun x y => cell_kept g1 (below1 _ _)
             have HKR0 := Lib.hid (KR.start wp (.slice (some ⟨g, koff, none⟩) kn kc) (.slice va vn vc))
             have HKR1 := fun O => Lib.hid (KR.start2 wp (.slice (some ⟨g, koff, none⟩) kn kc) (.slice va vn vc) O)
             have HN9 := fun O => Lib.hid (show ((wp.alloc (.cells #[.slice (some ⟨g, koff, none⟩) kn kc, .slice va vn vc] 57)).alloc O).drew.heap[wp.heap.size + 1]? = some O from (((Below.refl (wp.heap.size + 2) ((wp.alloc (.cells #[.slice (some ⟨g, koff, none⟩) kn kc, .slice va vn vc] 57)).alloc O)).drew).block (wp.heap.size + 1) (by omega)).trans (alloc_at2 _ O _ (by simp)))
             have hzz : (z = 116 ∨ z = 105) := by
               rw [HZ2]; unfold kz
               split
               · exact Or.inl rfl
               · exact Or.inr rfl
             clear HZ2
             cases O with
             | none =>
               have HRN := Lib.hid (HBAD.out HST.out)
               clear HBAD HNX HST
               rcases hzz with rfl | rfl
               all_goals
                 go_upto_region 11 with (fail)
                 go_region_held3 (fun wx => wx.cell? ⟨w.heap.size + 1, 0, none⟩ = some (.slice A ts.length c) ∧ wx.cell? ⟨w.heap.size + 1, 1, none⟩ = some (.slice ia xs.length ic) ∧ wx.cell? ⟨wp.heap.size, 0, none⟩ = some (.slice (some ⟨g, koff, none⟩) kn kc) ∧ wx.cell? ⟨wp.heap.size, 1, none⟩ = some (.slice va vn vc) ∧ (convert 55 9 (.slice A2 r.length k2)).run Tryz.prog wx = .ok (.string (sB r)) wx)
                   (first
                     | (with_reducible exact sxR HK.out HCV.out HKR0.out)
                     | (with_reducible exact sxR HK.out HCV.out (HKR1 _).out)
                     | (with_reducible exact sxR HK.out HCV.out HKR6.out)
                     | (with_reducible exact sxR HK.out HCV.out (HKR6.out.keep (below1 _ _)))
                     | (with_reducible exact sxR HK.out HCV.out (HKR6.out.set _ _ _ (Nat.lt_succ_self _)))
                     | (with_reducible exact sxR HK.out HCV.out ((HKR6.out.set _ _ _ (Nat.lt_succ_self _)).set _ _ _ (Nat.lt_succ_self _)))
                     | fail)
                   (first
                     | (go_at_call 49; (with_reducible refine (HONE.out _ HKR0.out.far).mono ?_); rintro e w6 hO
                        obtain ⟨hB6, p1, p2, p3, p4, p5, p6, er, her, rfl⟩ := entp_none hO
                        have HKR6 := Lib.hid (HKR0.out.keep hB6)
                        have HK6 := Lib.hid (HK.out.keep HKR6.out.far)
                        have her1 : (er != 0) = true := bne_iff_ne.2 her
                        have her2 : (er = 0) = False := eq_false her
                        have a0 := cell_of_row _ _ 0 _ _ _ HK6.out.ans
                        have a1 := cell_of_row _ _ 1 _ _ _ HK6.out.ans
                        have f0 := frozen_of_row _ _ 0 _ _ HK6.out.ans
                        have f1 := frozen_of_row _ _ 1 _ _ HK6.out.ans
                        have hz6 := heap_lt HK6.out.ans
                        clear hO hB6 her)
                     | (go_at_call 49; (with_reducible refine (HONE.out _ (HKR1 _).out.far).mono ?_); rintro e w6 hO
                        obtain ⟨hB6, p1, p2, p3, p4, p5, p6, er, her, rfl⟩ := entp_none hO
                        have HKR6 := Lib.hid ((HKR1 _).out.keep hB6)
                        have HK6 := Lib.hid (HK.out.keep HKR6.out.far)
                        have her1 : (er != 0) = true := bne_iff_ne.2 her
                        have her2 : (er = 0) = False := eq_false her
                        have HN6 := Lib.hid (box_keep (HN9 _).out hB6)
                        have n0 := cell_of_row _ _ 0 _ _ _ HN6.out
                        have n1 := cell_of_row _ _ 1 _ _ _ HN6.out
                        have m0 := frozen_of_row _ _ 0 _ _ HN6.out
                        have m1 := frozen_of_row _ _ 1 _ _ HN6.out
                        have hz9 := heap_lt HN6.out
                        have a0 := cell_of_row _ _ 0 _ _ _ HK6.out.ans
                        have a1 := cell_of_row _ _ 1 _ _ _ HK6.out.ans
                        have f0 := frozen_of_row _ _ 0 _ _ HK6.out.ans
                        have f1 := frozen_of_row _ _ 1 _ _ HK6.out.ans
                        have hz6 := heap_lt HK6.out.ans
                        clear hO hB6 her)
                     | fail)
                 all_goals
                   go_wp2_with fail
                   refine bodyPost_ret (v := .tuple #[.agg #[.slice none 0 0, .slice none 0 0], .int .i64 7]) (by simp [results, Tryz.results24, go_sem, a0, a1, hz6]) rfl ⟨?_, Or.inl ⟨HRN.out, rfl⟩⟩
                   first
                     | (with_reducible exact HK6.out.badA _ _ _)
                     | exact (((HK6.out.below.setCell (p := ⟨wp.heap.size + 1, 0, none⟩) (by show w.heap.size ≤ wp.heap.size + 1; omega) _).setCell (p := ⟨wp.heap.size + 1, 1, none⟩) (by show w.heap.size ≤ wp.heap.size + 1; omega) _).setCell (p := ⟨w.heap.size, 0, none⟩) (Nat.le_refl _) _).setCell (p := ⟨w.heap.size, 1, none⟩) (Nat.le_refl _) _
             | some s2 =>
               have HNN := Lib.hid (HNX.out _ HST.out)
               have HOK := Lib.hid (pass_ok (by omega) HNN.out)
               clear HBAD HNX HST
               rcases hzz with rfl | rfl
               all_goals
                 go_upto_region 11 with (fail)
                 go_region_held3 (fun wx => wx.cell? ⟨w.heap.size + 1, 0, none⟩ = some (.slice A ts.length c) ∧ wx.cell? ⟨w.heap.size + 1, 1, none⟩ = some (.slice ia xs.length ic) ∧ wx.cell? ⟨wp.heap.size, 0, none⟩ = some (.slice (some ⟨g, koff, none⟩) kn kc) ∧ wx.cell? ⟨wp.heap.size, 1, none⟩ = some (.slice va vn vc) ∧ (convert 55 9 (.slice A2 r.length k2)).run Tryz.prog wx = .ok (.string (sB r)) wx)
                   (first
                     | (with_reducible exact sxR HK.out HCV.out HKR0.out)
                     | (with_reducible exact sxR HK.out HCV.out (HKR1 _).out)
                     | (with_reducible exact sxR HK.out HCV.out HKR6.out)
                     | (with_reducible exact sxR HK.out HCV.out (HKR6.out.keep (below1 _ _)))
                     | (with_reducible exact sxR HK.out HCV.out (HKR6.out.set _ _ _ (Nat.lt_succ_self _)))
                     | (with_reducible exact sxR HK.out HCV.out ((HKR6.out.set _ _ _ (Nat.lt_succ_self _)).set _ _ _ (Nat.lt_succ_self _)))
                     | fail)
                   (first
                     | (go_at_call 49; (with_reducible refine (HONE.out _ HKR0.out.far).mono ?_); rintro e w6 hO
                        obtain ⟨hB6, A9, ia9, c9, ic9, ts9, xs9, hs9, rfl, hS9⟩ := entp_some hO HOK.out
                        have HKR6 := Lib.hid (HKR0.out.keep hB6)
                        have HK6 := Lib.hid (HK.out.keep HKR6.out.far)
                        have HTI6 := Lib.hid (HTI.out.keep HKR6.out.far)
                        have b0 := cell_of_row _ _ 0 _ _ _ HK6.out.box
                        have b1 := cell_of_row _ _ 1 _ _ _ HK6.out.box
                        have d0 := frozen_of_row _ _ 0 _ _ HK6.out.box
                        have d1 := frozen_of_row _ _ 1 _ _ HK6.out.box
                        have hz7 := heap_lt HK6.out.box
                        have HNN9 := Lib.hid (show ∃ s0, prog L q = some s0 ∧ passE (kindOf q) s0 (L.take (j + 1)) = some (ts9.map ptOf, xs9.map pxOf) from by rw [← hs9]; exact HNN.out)
                        have HK7 := fun O => Lib.hid ((HK6.out.set (c2 := c9) (ic2 := ic9) hS9).keep (below1 _ O))
                        have HTI7 := fun O x y => Lib.hid (((HTI6.out.set (w.heap.size + 1) 0 x (by omega)).set (w.heap.size + 1) 1 y (by omega)).keep (below1 _ O))
                        clear hB6 hO hS9 hs9)
                     | (go_at_call 49; (with_reducible refine (HONE.out _ (HKR1 _).out.far).mono ?_); rintro e w6 hO
                        obtain ⟨hB6, A9, ia9, c9, ic9, ts9, xs9, hs9, rfl, hS9⟩ := entp_some hO HOK.out
                        have HKR6 := Lib.hid ((HKR1 _).out.keep hB6)
                        have HK6 := Lib.hid (HK.out.keep HKR6.out.far)
                        have HTI6 := Lib.hid (HTI.out.keep HKR6.out.far)
                        have b0 := cell_of_row _ _ 0 _ _ _ HK6.out.box
                        have b1 := cell_of_row _ _ 1 _ _ _ HK6.out.box
                        have d0 := frozen_of_row _ _ 0 _ _ HK6.out.box
                        have d1 := frozen_of_row _ _ 1 _ _ HK6.out.box
                        have hz7 := heap_lt HK6.out.box
                        have HNN9 := Lib.hid (show ∃ s0, prog L q = some s0 ∧ passE (kindOf q) s0 (L.take (j + 1)) = some (ts9.map ptOf, xs9.map pxOf) from by rw [← hs9]; exact HNN.out)
                        have HN6 := Lib.hid (box_keep (HN9 _).out hB6)
                        have n0 := cell_of_row _ _ 0 _ _ _ HN6.out
                        have n1 := cell_of_row _ _ 1 _ _ _ HN6.out
                        have m0 := frozen_of_row _ _ 0 _ _ HN6.out
                        have m1 := frozen_of_row _ _ 1 _ _ HN6.out
                        have hz9 := heap_lt HN6.out
                        have HK7 := Lib.hid (HK.out.put HKR6.out.far (c2 := c9) (ic2 := ic9) hS9 HN6.out (Nat.lt_succ_self _))
                        have HTI7 := fun a b x y => Lib.hid ((((HTI.out.keep ((HKR6.out.set (wp.heap.size + 1) 0 a (Nat.lt_succ_self _)).set (wp.heap.size + 1) 1 b (Nat.lt_succ_self _)).far)).set (w.heap.size + 1) 0 x (by omega)).set (w.heap.size + 1) 1 y (by omega))
                        clear hB6 hO hS9 hs9)
                     | fail)
                 all_goals
                   go_wp2_with fail
                   go_roundw
                   case rel => first | exact ⟨j + 1, A9, c9, ts9, ia9, ic9, xs9, by omega, by go_num, HNN9, HK7 _, HTI7 _ _ _⟩ | exact ⟨j + 1, A9, c9, ts9, ia9, ic9, xs9, by omega, by go_num, HNN9, HK7, HTI7 _ _ _ _⟩
                   case measure => simp [intOf] <;> omega
           · by_cases h16 : ch = 116 ∨ ch = 105
             · have HNN := Lib.hid (HNX.out _ (stp_skip rfl h16 hk))
               have HKI := Lib.hid hk
               rcases h16 with rfl | rfl
               · obtain rfl : z = 105 := by
                   rw [HZ.out]; unfold kz
                   rw [if_neg]
                   intro h; exact hk (by rw [h]; rfl)
                 have g2 : ∀ x y, (wp.alloc (.cells #[x, y] 57)).cell? ⟨g, koff, none⟩ = some (.int .u8 116) := fun x y => cell_kept g1 (below1 _ _)
                 clear hk g1
                 go_wp2_with fail
                 go_roundw
                 case rel => exact ⟨j + 1, A, c, ts, ia, ic, xs, by omega, by go_num, HNN, HK1 _, HTI1 _⟩
                 case measure => simp [intOf] <;> omega
               · obtain rfl : z = 116 := by
                   rw [HZ.out]; unfold kz
                   by_cases h : q = 0
                   · rw [if_pos h]
                   · exact absurd (show (105 : UInt8) = kindOf q from by unfold kindOf; rw [if_neg h]) hk
                 have g2 : ∀ x y, (wp.alloc (.cells #[x, y] 57)).cell? ⟨g, koff, none⟩ = some (.int .u8 105) := fun x y => cell_kept g1 (below1 _ _)
                 clear hk g1
                 go_wp2_with fail
                 go_roundw
                 case rel => exact ⟨j + 1, A, c, ts, ia, ic, xs, by omega, by go_num, HNN, HK1 _, HTI1 _⟩
                 case measure => simp [intOf] <;> omega
             · have HRN := Lib.hid (HBAD.out (stp_bad rfl (fun h => h16 (Or.inl h)) (fun h => h16 (Or.inr h))))
               obtain ⟨zc, hzc⟩ : ∃ z : Int, z = (ch.toNat : Int) := ⟨_, rfl⟩
               have e1 : zc ≠ 116 := by
                 rw [hzc]
                 intro e
                 exact h16 (Or.inl (UInt8.toNat_inj.1 (show ch.toNat = (116 : UInt8).toNat by have : (116 : UInt8).toNat = 116 := rfl; omega)))
               have e2 : zc ≠ 105 := by
                 rw [hzc]
                 intro e
                 exact h16 (Or.inr (UInt8.toNat_inj.1 (show ch.toNat = (105 : UInt8).toNat by have : (105 : UInt8).toNat = 105 := rfl; omega)))
               have f1 : (zc != 116) = true := bne_iff_ne.2 e1
               have f2 : (zc != 105) = true := bne_iff_ne.2 e2
               have f3 : (zc = 116) = False := eq_false e1
               have f4 : (zc = 105) = False := eq_false e2
               have g2 : ∀ x y, (wp.alloc (.cells #[x, y] 57)).cell? ⟨g, koff, none⟩ = some (.int .u8 zc) := fun x y => by rw [hzc]; exact cell_kept g1 (below1 _ _)
               clear hzc h16 e1 e2 g1 hk
               go_wp2_with fail
               refine bodyPost_ret (v := .tuple #[.agg #[.slice none 0 0, .slice none 0 0], .int .i64 7]) (by simp [results, Tryz.results24, go_sem, z0, z1, hza]) rfl ⟨HK.out.badA _ _ _, Or.inl ⟨HRN.out, rfl⟩⟩
       · obtain rfl : j = n := by omega
         have hjn : ((j : Int) < (j : Int)) = False := eq_false (by omega)
         go_wp2_with fail
         go_roundw
         case rel => exact ⟨q + 1, A, c, ts, ia, ic, xs, by omega, by go_num, Lib.hid (by
           obtain ⟨s0, h1, h2⟩ := HP.out
           exact prog_end hlt h1 (by rw [show L.length = j from by rw [HLL.out, List.length_map]; exact HN.out.symm]; exact h2)), HK, HTI⟩
         case measure => simp [intOf] <;> omega
   · obtain rfl : q = 2 := by omega
     have HRF := Lib.hid (show R = if entsP (ts.map ptOf) (xs.map pxOf) = L then some (ts.map ptOf, xs.map pxOf) else none from by rw [HR.out, readF_of HP.out])
     have HOK := Lib.hid (prog_ok (by omega) HP.out)
     have HLN := Lib.hid HOK.out.lens
     have z0 := cell_of_row _ _ 0 _ _ _ HK.out.ans
     have z1 := cell_of_row _ _ 1 _ _ _ HK.out.ans
     have y0 := frozen_of_row _ _ 0 _ _ HK.out.ans
     have y1 := frozen_of_row _ _ 1 _ _ HK.out.ans
     have x0 := cell_of_row _ _ 0 _ _ _ HK.out.box
     have x1 := cell_of_row _ _ 1 _ _ _ HK.out.box
     have HENT := Lib.hid (ents_any A c ts ia ic xs wo HK.out.sch.1 HK.out.sch.2.1 HLN.out.1 HLN.out.2 (fun p hp => HOK.out.t _ (List.mem_map_of_mem hp)) (fun p hp => HOK.out.x _ (List.mem_map_of_mem hp)))
     have HML := Lib.hid (entsP_len HOK.out)
     dsimp only at HML
     obtain ⟨M, hM⟩ : ∃ M, M = entsP (ts.map ptOf) (xs.map pxOf) := ⟨_, rfl⟩
     rw [← hM] at HRF HENT HML
     clear hM HP
     obtain ⟨bm, hbm⟩ : ∃ bm, bm = decide (M = L) := ⟨_, rfl⟩
     have HBM := Lib.hid hbm
     clear hbm
     cases bm with
     | true =>
       have HRS := Lib.hid (show R = some (ts.map ptOf, xs.map pxOf) from by rw [HRF.out, if_pos (of_decide_eq_true HBM.out.symm)])
       go_wp2_with (first
         | (go_at_call 51; (with_reducible refine HENT.out.mono ?_); rintro e w6 hO
            obtain ⟨EA, ec, es2, rfl, hB6, hE2, hM2⟩ := ents_out hO HML.out
            have HK6 := Lib.hid (HK.out.keep hB6)
            have HQ6 := Lib.hid (HEQ.out EA ec es2 w6 HK6.out.below hE2)
            rw [hM2, ← HBM.out] at HQ6
            clear hB6 hO hE2 hM2 z0 z1 y0 y1 x0 x1)
         | (go_at_call 50; (with_reducible refine HQ6.out.mono ?_); rintro e w7 ⟨rfl, hB7⟩
            have HK7 := Lib.hid (HK6.out.keep hB7)
            have a0 := cell_of_row _ _ 0 _ _ _ HK7.out.ans
            have a1 := cell_of_row _ _ 1 _ _ _ HK7.out.ans
            have f0 := frozen_of_row _ _ 0 _ _ HK7.out.ans
            have f1 := frozen_of_row _ _ 1 _ _ HK7.out.ans
            have b0 := cell_of_row _ _ 0 _ _ _ HK7.out.box
            have b1 := cell_of_row _ _ 1 _ _ _ HK7.out.box
            clear hB7)
         | fail)
       refine bodyPost_ret (v := .tuple #[.agg #[.slice A ts.length c, .slice ia xs.length ic], .int .i64 0]) (by simp [results, Tryz.results24, go_sem, a0, a1]) rfl ⟨HK7.out.done.1, Or.inr ⟨A, c, ts, ia, ic, xs, HRS.out, rfl, HK7.out.done.2⟩⟩
     | false =>
       have HRN := Lib.hid (show R = none from by rw [HRF.out, if_neg (of_decide_eq_false HBM.out.symm)])
       go_wp2_with (first
         | (go_at_call 51; (with_reducible refine HENT.out.mono ?_); rintro e w6 hO
            obtain ⟨EA, ec, es2, rfl, hB6, hE2, hM2⟩ := ents_out hO HML.out
            have HK6 := Lib.hid (HK.out.keep hB6)
            have HQ6 := Lib.hid (HEQ.out EA ec es2 w6 HK6.out.below hE2)
            rw [hM2, ← HBM.out] at HQ6
            clear hB6 hO hE2 hM2 z0 z1 y0 y1 x0 x1)
         | (go_at_call 50; (with_reducible refine HQ6.out.mono ?_); rintro e w7 ⟨rfl, hB7⟩
            have HK7 := Lib.hid (HK6.out.keep hB7)
            have a0 := cell_of_row _ _ 0 _ _ _ HK7.out.ans
            have a1 := cell_of_row _ _ 1 _ _ _ HK7.out.ans
            have f0 := frozen_of_row _ _ 0 _ _ HK7.out.ans
            have f1 := frozen_of_row _ _ 1 _ _ HK7.out.ans
            clear hB7)
         | fail)
       refine bodyPost_ret (v := .tuple #[.agg #[.slice none 0 0, .slice none 0 0], .int .i64 7]) (by simp [results, Tryz.results24, go_sem, a0, a1]) rfl ⟨HK7.out.bad _ _, Or.inl ⟨HRN.out, rfl⟩⟩
end Go.Proofs.YtcgpflkaejbkhaaGreatDoor
namespace Go.Proofs.YtcgpflkaejbkhaaGreatDoor
open Go.RowKit

def ReadE (w : World) (r : Option Sch) (e : Ending) (w' : World) : Prop := ∃ (A : Option Addr) (c : Nat) (ts : List (Tab × List Col)) (ia : Option Addr) (ic : Nat) (xs : List (Idx × List Int)), e = .returned (.tuple #[.agg #[.slice A ts.length c, .slice ia xs.length ic], .int .i64 (if r.isSome then 0 else 7)]) ∧ Below w.heap.size w w' ∧ DeepAt w' A ts ∧ DeepIx w' ia xs ∧ (ts.map ptOf, xs.map pxOf) = r.getD ([], [])
theorem ReadZ.one {w : World} {r : Option Sch} {e : Ending} {w' : World} (h : ReadZ w r e w') : ReadE w r e w' := by
 obtain ⟨hB, ⟨rfl, rfl⟩ | ⟨A, c, ts, ia, ic, xs, rfl, rfl, hS⟩⟩ := h
 · exact ⟨none, 0, [], none, 0, [], rfl, hB, ⟨⟨Nat.zero_le _, Or.inl rfl⟩, fun p hp => (List.not_mem_nil hp).elim⟩, ⟨⟨Nat.zero_le _, Or.inl rfl⟩, fun p hp => (List.not_mem_nil hp).elim⟩, rfl⟩
 · exact ⟨A, c, ts, ia, ic, xs, rfl, hB, hS.1, hS.2.1, rfl⟩
set_option maxRecDepth 100000 in
set_option maxHeartbeats 8000000 in
theorem reads_any (m : Int) (gt : Nat → Nat) (ht : ∀ j, j < 23 → finD (Ieee.double.read (gt j)) = true) (B : Option Addr) (d : Nat) (es : List EntI) (w : World) (hG : Glob m gt w) (hL : EntsAt w B es) (hkc : ∀ p ∈ es, p.key.length ≤ p.kc) :
   Calls Tryz.prog 6 #[.slice B es.length d] w (RetT w) := by
 have HLV := Lib.hid (show ∀ W, Below w.heap.size w W → Calls Tryz.prog 7 #[] W (RetT W) from fun W hB => lives_any m gt ht W (hG.keep hB))
 have hmax : es.length ≤ maxLen := by have := hL.1.1; rwa [List.length_map] at this
 obtain ⟨n, hn⟩ : ∃ n, n = es.length := ⟨_, rfl⟩
 have HRD := Lib.hid (show n ≤ 30 → (∀ p ∈ es, p.key.length ≤ 50 ∧ p.val.length ≤ 300) → ∀ W, Below w.heap.size w W → Calls Tryz.prog 24 #[.slice B n d] W (ReadE W (readF (es.map eiP))) from fun h1 h2 W hB => by
   rw [hn]
   exact (sread_any m gt ht B d es W (hG.keep hB) (hL.keep hB) (by omega) hkc (fun p hp => by have := h2 p hp; omega)).mono fun e w' h => h.one)
 have HLE := Lib.hid (show n ≤ 30 → ∀ W, Below w.heap.size w W → Calls Tryz.prog 26 #[.slice B n d] W (DEntsP W (es.map eiP)) from fun h1 W hB => by
   rw [hn]
   exact law_ents B d es W (hL.keep hB) (by omega))
 have HRR := Lib.hid (show n ≤ 30 → (∀ p ∈ es, p.key.length ≤ 50 ∧ p.val.length ≤ 300) → ∀ (v : Value) W W1, Below w.heap.size w W → W1.ownsRow W.heap.size 89 2 v (es.map eiP).length ((es.map eiP).map deL).flatten → Below W.heap.size W W1 → Calls Tryz.prog 25 #[v] W1 (ReadE W1 (readF (es.map eiP))) from fun h1 h2 v W W1 hB hown hB1 => by
   obtain ⟨MA, mc, rfl, _, hMC, _, _⟩ := own_cells hown deL_len (List.length_map ..).symm
   refine (rread_any m gt ht MA mc (es.map eiP) W1 (hG.keep (hB.trans (hB1.mono hB.size))) hMC (by rw [List.length_map]; omega) (fun p hp => ?_)).mono fun e w' h => h.one
   obtain ⟨q, hq, rfl⟩ := List.mem_map.1 hp
   have := h2 q hq
   show q.key.length ≤ 900 ∧ q.val.length ≤ 1000
   omega)
 obtain ⟨ER, hER⟩ : ∃ ER : Int, ER = if (readF (es.map eiP)).isSome then 0 else 7 := ⟨_, rfl⟩
 obtain ⟨S, hS⟩ : ∃ S : Sch, S = (readF (es.map eiP)).getD ([], []) := ⟨_, rfl⟩
 unfold ReadE at HRD HRR
 rw [← hER, ← hS] at HRD HRR
 obtain ⟨M, hM⟩ : ∃ M, M = es.map eiP := ⟨_, rfl⟩
 rw [← hM] at HLE HRR
 rw [← hn] at hmax ⊢
 have HN := Lib.hid hn
 have HL := Lib.hid hL
 clear hG hL hkc hER hS hM hn
 unfold maxLen at hmax
 have he : (ER == ER) = true := beq_self_eq_true _
 by_cases h30 : n ≤ 30
 · go_enter Tryz.func6, Tryz.ntmps6
   go_wp2_with (first
     | (go_at_call 7; (with_reducible refine (HLV.out _ (Below.refl _ _)).mono ?_); rintro e w1 ⟨rfl, hB1⟩
        have HB1 := Lib.hid hB1
        clear hB1)
     | fail)
   go_loopw [19] (fun i wr => ∃ j : Nat, j ≤ n ∧ i = .int .i64 j ∧ Hid (∀ p ∈ es.take j, p.key.length ≤ 50 ∧ p.val.length ≤ 300) ∧ Hid (Below w.heap.size w wr)) (fun i _ => n - (intOf i).toNat)
   case atStart => exact ⟨0, Nat.zero_le _, rfl, Lib.hid (fun p hp => by rw [List.take_zero] at hp; cases hp), HB1⟩
   case round =>
     clear HB1
     obtain ⟨j, hj, rfl, HSM, HB⟩ := hrel
     obtain ⟨wo, rfl⟩ : ∃ wo : World, wo = wr := ⟨_, rfl⟩
     by_cases hjl : j < n
     · have hjn : ((j : Int) < (n : Int)) = True := eq_true (by omega)
       obtain ⟨p, hp⟩ : ∃ p, es[j]? = some p := ⟨_, List.getElem?_eq_getElem (by have := HN.out; omega)⟩
       obtain ⟨b, off, rfl, hb, k0, k1, _⟩ := ent_at (HL.out.keep HB.out) hp
       have HP := Lib.hid hp
       have HB1 := fun O => Lib.hid (HB.out.trans ((below1 wo O).mono HB.out.size))
       obtain ⟨ka, kc, key, va, vc, val⟩ := p
       dsimp only at k0 k1
       clear hp
       have HNX := Lib.hid (show key.length ≤ 50 → val.length ≤ 300 → ∀ p ∈ es.take (j + 1), p.key.length ≤ 50 ∧ p.val.length ≤ 300 from fun h1 h2 p hp => by
         rw [List.take_add_one, List.mem_append] at hp
         rcases hp with hp | hp
         · exact HSM.out p hp
         · rw [HP.out] at hp
           simp only [Option.toList_some, List.mem_singleton] at hp
           subst hp
           exact ⟨h1, h2⟩)
       obtain ⟨kn, hkn⟩ : ∃ kn, kn = key.length := ⟨_, rfl⟩
       obtain ⟨vn, hvn⟩ : ∃ vn, vn = val.length := ⟨_, rfl⟩
       rw [← hkn] at k0 HNX
       rw [← hvn] at k1 HNX
       clear hkn hvn HSM HP
       by_cases h50 : kn ≤ 50
       · by_cases h300 : vn ≤ 300
         · have HNX := Lib.hid (HNX.out h50 h300)
           go_wp2_with fail
           go_roundw
           case rel => exact ⟨j + 1, by omega, by go_num, HNX, HB1 _⟩
           case measure => simp [intOf] <;> omega
         · go_wp2_with fail
           go_ret
           exact ⟨rfl, (HB1 _).out⟩
       · go_wp2_with fail
         go_ret
         exact ⟨rfl, (HB1 _).out⟩
     · obtain rfl : j = n := by omega
       have hjn : ((j : Int) < (j : Int)) = False := eq_false (by omega)
       have HSM := Lib.hid (show ∀ p ∈ es, p.key.length ≤ 50 ∧ p.val.length ≤ 300 from by
         have h := HSM.out
         rwa [List.take_of_length_le (by have := HN.out; omega)] at h)
       have HBW := HB
       clear HB
       go_wp2_with (first
         | (go_at_call 24; (with_reducible refine (HRD.out h30 HSM.out _ HBW.out).mono ?_); rintro e w2 ⟨A, c, ts, ia, ic, xs, rfl, hB2, hD, hX, hE⟩
            have HB3 := fun O => Lib.hid (HBW.out.trans ((hB2.trans ((below1 w2 O).mono hB2.size)).mono HBW.out.size))
            have HD3 := fun O => Lib.hid (hD.keep (below1 w2 O))
            have HX3 := fun O => Lib.hid (hX.keep (below1 w2 O))
            have HE3 := Lib.hid hE
            have HK3 := fun O => Lib.hid (heap_alloc_new w2 O)
            clear hB2 hD hX hE)
         | (go_at_call 26; (with_reducible refine (HLE.out h30 _ (HB3 _).out).mono ?_); rintro e w4 ⟨v, rfl, hB4, hown⟩
            have HB4 := Lib.hid hB4
            have HO4 := Lib.hid hown
            clear hB4 hown)
         | (go_at_call 25; (with_reducible refine (HRR.out h30 HSM.out _ _ _ (HB3 _).out HO4.out HB4.out).mono ?_); rintro e w5 ⟨A2, c2, ts2, ia2, ic2, xs2, rfl, hB5, hD5, hX5, hE5⟩
            have HB45 := Lib.hid (show Below (w2.alloc (.cells #[.slice A ts.length c, .slice ia xs.length ic] 36)).heap.size (w2.alloc (.cells #[.slice A ts.length c, .slice ia xs.length ic] 36)) w5 from HB4.out.trans (hB5.mono HB4.out.size))
            have HB6 := fun O => Lib.hid (show Below (w2.alloc (.cells #[.slice A ts.length c, .slice ia xs.length ic] 36)).heap.size (w2.alloc (.cells #[.slice A ts.length c, .slice ia xs.length ic] 36)) (w5.alloc O) from HB45.out.trans ((below1 w5 O).mono HB45.out.size))
            have a0 : ∀ O, (w5.alloc O).cell? ⟨w2.heap.size, 0, none⟩ = some (.slice A ts.length c) := fun O => cell_of_row _ _ 0 _ _ _ (box_keep (HK3 _).out (HB6 O).out)
            have a1 : ∀ O, (w5.alloc O).cell? ⟨w2.heap.size, 1, none⟩ = some (.slice ia xs.length ic) := fun O => cell_of_row _ _ 1 _ _ _ (box_keep (HK3 _).out (HB6 O).out)
            have HSA := fun O => Lib.hid (same_eq A c ts ia ic xs A2 c2 ts2 ia2 ic2 xs2 (w5.alloc O) ((HD3 _).out.keep (HB6 O).out) ((HX3 _).out.keep (HB6 O).out) (hD5.keep (below1 w5 O)) (hX5.keep (below1 w5 O)) ((congrArg Prod.fst HE3.out).trans (congrArg Prod.fst hE5).symm) ((congrArg Prod.snd HE3.out).trans (congrArg Prod.snd hE5).symm))
            have HB7 := fun O => Lib.hid ((HB3 _).out.trans ((HB6 O).out.mono (HB3 _).out.size))
            clear hB5 hD5 hX5 hE5)
         | (go_at_call 11; (with_reducible refine (HSA _).out.mono ?_); rintro e w6 ⟨rfl, hB8⟩
            have HB8 := Lib.hid ((HB7 _).out.trans (hB8.mono (HB7 _).out.size))
            clear hB8)
         | fail)
       go_ret
       exact ⟨rfl, HB8.out⟩
 · go_enter Tryz.func6, Tryz.ntmps6
   go_wp2_with (first
     | (go_at_call 7; (with_reducible refine (HLV.out _ (Below.refl _ _)).mono ?_); rintro e w1 ⟨rfl, hB1⟩
        have HB1 := Lib.hid hB1
        clear hB1)
     | (go_at_call 7; (with_reducible refine (HLV.out _ HB1.out).mono ?_); rintro e w2 ⟨rfl, hB2⟩
        have HB2 := Lib.hid (HB1.out.trans (hB2.mono HB1.out.size))
        clear hB2)
     | fail)
   go_ret
   exact ⟨rfl, HB2.out⟩
end Go.Proofs.YtcgpflkaejbkhaaGreatDoor
