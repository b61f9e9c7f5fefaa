/- Entries opened: what a slice of entries that is handed in reads as. -/
import Derived.Test.YtcgpflkaejbkhaaGreatDoorQBE
import Derived.Test.YtcgpflkaejbkhaaGreatDoorQBL
namespace Go.Proofs.YtcgpflkaejbkhaaGreatDoor
open Go.RowKit Go.ChangeShapes Go.WideShapes

theorem cells5 : Tryz.prog.cellsOf 5 = 1 := by kernel_rfl
theorem cells55 : Tryz.prog.cellsOf 55 = 1 := by kernel_rfl
theorem cells57 : Tryz.prog.cellsOf 57 = 2 := by kernel_rfl
section
variable {H : Type} {enc : TypeId × Value → H} {W : World}
theorem byV_of {n : Int} (h : (Lit.int .u8 n).wf = true) : ∃ c : UInt8, Value.int .u8 n = byV c := by
 have h2 := bounds_u8 h
 refine ⟨UInt8.ofNat n.toNat, ?_⟩
 unfold byV
 congr 1
 rw [UInt8.toNat_ofNat']
 omega
set_option maxRecDepth 100000 in
theorem open_bytes {fuel : Nat} {cs : List Value} {x : DataW H × List MemPlace} (h : DataW.trod enc Tryz.prog W 0 (fun _ => true) true fuel 55 cs = some x) : ∃ (A : Option Addr) (c : Nat) (l : List UInt8), cs = [.slice A l.length c] ∧ BtAt W A l ∧ l.length ≤ c := by
 obtain ⟨A, c, l, h1, _, h2, h3, h4⟩ := open_elems (α := UInt8) Tryz.underlying55 cells5 (by omega) (fun z cs' => cs' = [byV z]) h (fun n cs' y _ hy hl => by
   obtain ⟨z, e, _, hz⟩ := DataW.trod_int Tryz.underlying5 hy
   obtain ⟨b, hb⟩ := byV_of hz
   exact ⟨b, by rw [e, hb]⟩)
 refine ⟨A, c, l, h1, ⟨Nat.le_trans h2 h3, h4.imp id fun ⟨b, off, g1, g2, g3⟩ => ⟨b, off, g1, g2, fun j z hz => ?_⟩⟩, h2⟩
 obtain ⟨cs', rfl, g4⟩ := g3 j z hz
 have := g4 0 _ rfl
 rwa [Nat.mul_one, Nat.add_zero] at this
set_option maxRecDepth 100000 in
theorem open_ent {fuel : Nat} {cs : List Value} {x : DataW H × List MemPlace} (h : DataW.trod enc Tryz.prog W 0 (fun _ => true) true fuel 57 cs = some x) (hl : cs.length = 2) : ∃ e : EntI, cs = eiL e ∧ EI W e ∧ e.key.length ≤ e.kc := by
 obtain ⟨xs, m, _, _, _, hlen, hfs⟩ := DataW.trod_struct Tryz.underlying57 h
 match cs, hl with
 | [c0, c1], _ =>
   match xs, hlen with
   | [x0, x1], _ =>
     have g0 : DataW.trod enc Tryz.prog W 0 (fun _ => true) true m 55 (([c0, c1].drop 0).take (Tryz.prog.cellsOf 55)) = some x0 := hfs 0 _ rfl
     rw [cells55] at g0
     have g1 : DataW.trod enc Tryz.prog W 0 (fun _ => true) true m 55 (([c0, c1].drop 1).take (Tryz.prog.cellsOf 55)) = some x1 := hfs 1 _ rfl
     rw [cells55] at g1
     obtain ⟨A0, cc0, l0, e0, f0, b0⟩ := open_bytes g0
     obtain ⟨A1, cc1, l1, e1, f1, _⟩ := open_bytes g1
     cases (show [c0] = [_] from e0)
     cases (show [c1] = [_] from e1)
     exact ⟨⟨A0, cc0, l0, A1, cc1, l1⟩, rfl, ⟨f0, f1⟩, b0⟩
set_option maxRecDepth 100000 in
theorem open_ents {fuel : Nat} {cs : List Value} {x : DataW H × List MemPlace} (h : DataW.trod enc Tryz.prog W 0 (fun _ => true) true fuel 54 cs = some x) : ∃ (A : Option Addr) (c : Nat) (l : List EntI), cs = [.slice A l.length c] ∧ EntsAt W A l ∧ ∀ e ∈ l, e.key.length ≤ e.kc := by
 obtain ⟨A, c, l, h1, h0, h2, h3, h4⟩ := open_elems (α := EntI) Tryz.underlying54 cells57 (by omega) (fun z cs' => cs' = eiL z ∧ EI W z ∧ z.key.length ≤ z.kc) h (fun n cs' y _ hy hl => open_ent hy hl)
 have hall : ∀ e ∈ l, EI W e ∧ e.key.length ≤ e.kc := fun e he => by
   obtain ⟨j, hj⟩ := List.mem_iff_getElem?.1 he
   rcases h4 with h4 | ⟨b, off, g1, g2, g3⟩
   · rw [h4] at he; cases he
   · obtain ⟨_, g5, _⟩ := g3 j e hj
     exact g5.2
 refine ⟨A, c, l, h1, ⟨⟨by rw [List.length_map]; exact Nat.le_trans h2 h3, ?_⟩, fun e he => (hall e he).1⟩, fun e he => (hall e he).2⟩
 rcases h4 with h4 | ⟨b, off, g1, g2, g3⟩
 · exact Or.inl (by rw [h4]; rfl)
 · refine Or.inr ⟨b, off, g1, g2, fun j x hx => ?_⟩
   rw [List.getElem?_map, Option.map_eq_some_iff] at hx
   obtain ⟨e, he, rfl⟩ := hx
   obtain ⟨cs', ⟨rfl, _⟩, g5⟩ := g3 j e he
   exact ⟨rfl, g5⟩
set_option maxRecDepth 100000 in
theorem entries_open {b0 : Nat} {v : Value} {d : DataW H} {p : List MemPlace} (k1 : Value.okWide Tryz.prog W .any b0 54 v) (h1 : DataW.Trod enc Tryz.prog W 0 (fun _ => true) true 54 v d p) : ∃ (A : Option Addr) (c : Nat) (l : List EntI), v = .slice A l.length c ∧ EntsAt W A l ∧ ∀ e ∈ l, e.key.length ≤ e.kc := by
 obtain ⟨a, len, cap, rfl⟩ := okWide_slice Tryz.underlying54 k1
 obtain ⟨fuel, hf⟩ := h1
 obtain ⟨A, c, l, e, hL, hk⟩ := open_ents hf
 have e2 : ([.slice a len cap] : List Value) = [.slice A l.length c] := e
 cases e2
 exact ⟨_, _, l, rfl, hL, hk⟩
end
end Go.Proofs.YtcgpflkaejbkhaaGreatDoor
