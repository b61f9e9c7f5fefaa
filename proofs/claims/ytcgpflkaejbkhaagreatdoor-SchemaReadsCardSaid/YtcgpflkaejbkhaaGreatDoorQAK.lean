/- From the card's laid variables to what the walks ask. -/
import Derived.Test.YtcgpflkaejbkhaaGreatDoorQAI
import Derived.LaidMore
import Derived.ChangeArms
import Derived.ChangeBears2
import Derived.MakeChecks
namespace Go.Proofs.YtcgpflkaejbkhaaGreatDoor
open Go.RowKit

def ReadsAs (w : World) (n : String) (d : DataW Unit) : Prop :=
 ∃ g t cs fuel p, Tryz.prog.globalNamed n = some g ∧ (Tryz.prog.globals[g]?).map (·.type) = some t ∧ w.var? Tryz.prog n = some cs ∧ DataW.trod (fun _ => ()) Tryz.prog w 0 (fun _ => true) false fuel t cs.toList = some (d, p)
theorem vars_read {w : World} : ∀ {l : List (String × DataW Unit)} {ps : List MemPlace}, DataW.LaidVars Tryz.prog w l ps → ∀ n d, (n, d) ∈ l → ReadsAs w n d
 | [], _, _, _, _, hm => by cases hm
 | (n', d') :: r, ps, h, n, d, hm => by
   obtain ⟨g, t, cs, fuel, p, q, h1, h2, h3, h4, h5, _⟩ := h
   rcases List.mem_cons.1 hm with e | e
   · cases e
     exact ⟨g, t, cs, fuel, p, h1, h2, h3, h4⟩
   · exact vars_read h5 n d e
theorem trod_f64 {H : Type} {enc : TypeId × Value → H} {P : Program} {w : World} {base : Nat} {sp : Nat → Bool} {held : Bool} {fuel : Nat} {t : TypeId} {cs : List Value} {x : DataW H × List MemPlace} (ht : P.underlying t = some (.float .f64)) (h : DataW.trod enc P w base sp held fuel t cs = some x) : ∃ b, cs = [.float .f64 b] ∧ x = (.lit (.float .f64 b), []) := by
 cases fuel with
 | zero => simp [DataW.trod] at h
 | succ n =>
   unfold DataW.trod at h
   rw [ht] at h
   split at h <;> simp_all
def powL : List Nat := [4607182418800017408, 4621819117588971520, 4636737291354636288, 4652007308841189376, 4666723172467343360, 4681608360884174848, 4696837146684686336, 4711630319722168320, 4726483295884279808, 4741671816366391296, 4756540486875873280, 4771362005757984768, 4786511204640096256, 4801453603149578240, 4816244402031689728, 4831355200913801216, 4846369599423283200, 4861130398305394688, 4876203697187506176, 4891288408196988160, 4906019910204099648, 4921056587992461136, 4936209963552724370]
def powT (j : Nat) : Nat := powL.getD j 0
theorem pow_fin : ∀ j, j < 23 → finD (Ieee.double.read (powT j)) = true := by decide +kernel
theorem glob_of {w : World} {m : Int} {laid : List (String × DataW Unit)} (ho : ("internal/strconv.optimize", .lit (.bool true)) ∈ laid) (hi : ("internal/strconv.float64info", .agg [.lit (.int .u64 52), .lit (.int .u64 11), .lit (.int .i64 (-1023))]) ∈ laid) (hp : ("internal/strconv.float64pow10", .slice (powL.map fun b => .lit (.float .f64 b)) []) ∈ laid) (hm : w.cell? ⟨0, 0, none⟩ = some (.int .i64 m)) (h : laidMet Tryz.prog laid w) : Glob m powT w := by
 obtain ⟨_, hv, _⟩ := h
 have hr := fun n d hm => vars_read hv n d hm
 refine ⟨hm, ?_, ?_, ?_⟩
 · obtain ⟨g, t, cs, fuel, p, h1, h2, h3, h4⟩ := hr "internal/strconv.optimize" (.lit (.bool true)) ho
   obtain rfl : 4 = g := Option.some.inj ((show Tryz.prog.globalNamed "internal/strconv.optimize" = some 4 by kernel_rfl).symm.trans h1)
   obtain rfl : 4 = t := Option.some.inj ((show (Tryz.prog.globals[4]?).map (·.type) = some 4 by kernel_rfl).symm.trans h2)
   obtain ⟨b, hc, hx⟩ := DataW.trod_bool Tryz.underlying4 h4
   rw [var?_cell h1 h3 0]
   have e : cs[0]? = some (.bool b) := by rw [← Array.getElem?_toList, hc]; rfl
   rw [e]
   have : b = true := by have := (Prod.mk.inj hx).1; simpa using this.symm
   rw [this]
 · obtain ⟨g, t, cs, fuel, p, h1, h2, h3, h4⟩ := hr "internal/strconv.float64info" (.agg [.lit (.int .u64 52), .lit (.int .u64 11), .lit (.int .i64 (-1023))]) hi
   obtain rfl : 5 = g := Option.some.inj ((show Tryz.prog.globalNamed "internal/strconv.float64info" = some 5 by kernel_rfl).symm.trans h1)
   obtain rfl : 208 = t := Option.some.inj ((show (Tryz.prog.globals[5]?).map (·.type) = some 208 by kernel_rfl).symm.trans h2)
   obtain ⟨xs, n, rfl, hx, hl, hxl, hall⟩ := DataW.trod_struct Tryz.underlying208 h4
   have h5 := hall 0 _ rfl
   have hxs : xs.map (·.1) = [.lit (.int .u64 52), .lit (.int .u64 11), .lit (.int .i64 (-1023))] := by simpa using ((Prod.mk.inj hx).1).symm
   obtain ⟨x0, xs', rfl⟩ : ∃ x0 xs', xs = x0 :: xs' := by
     cases xs with
     | nil => simp at hxs
     | cons a l => exact ⟨a, l, rfl⟩
   have hx0 : x0.1 = .lit (.int .u64 52) := by simpa using congrArg (·.head?) hxs
   have h5 : DataW.trod (fun _ => ()) Tryz.prog w 0 (fun _ => true) false n 67 ((cs.toList.drop 0).take (Tryz.prog.cellsOf 67)) = some x0 := h5
   rw [show Tryz.prog.cellsOf 67 = 1 by kernel_rfl] at h5
   obtain ⟨z, hz, hz2, _⟩ := DataW.trod_int Tryz.underlying67 h5
   rw [hz2] at hx0
   have hz52 : z = 52 := by simpa using hx0
   rw [var?_cell h1 h3 0]
   have e : cs[0]? = some (.int .u64 z) := by
     rw [← Array.getElem?_toList]
     have := congrArg (·[0]?) hz
     simpa using this
   rw [e, hz52]
 · obtain ⟨g, t, cs, fuel, p, h1, h2, h3, h4⟩ := hr "internal/strconv.float64pow10" (.slice (powL.map fun b => .lit (.float .f64 b)) []) hp
   obtain rfl : 8 = g := Option.some.inj ((show Tryz.prog.globalNamed "internal/strconv.float64pow10" = some 8 by kernel_rfl).symm.trans h1)
   obtain rfl : 244 = t := Option.some.inj ((show (Tryz.prog.globals[8]?).map (·.type) = some 244 by kernel_rfl).symm.trans h2)
   obtain ⟨a, cap, hcs, hcap, hel⟩ := open_row Tryz.underlying244 (show Tryz.prog.cellsOf 169 = 1 by kernel_rfl) h4
   refine ⟨a, cap, ?_, fun j hj => ?_⟩
   · rw [var?_cell h1 h3 0, ← Array.getElem?_toList, hcs]
     rfl
   · have hjl : j < powL.length := hj
     obtain ⟨v, n, q, hv1, hv2⟩ := hel j (.lit (.float .f64 powL[j])) (by rw [List.getElem?_map, List.getElem?_eq_getElem hjl]; rfl)
     obtain ⟨b, hb1, hb2⟩ := trod_f64 Tryz.underlying169 hv2
     rw [hv1]
     have hvb : v = .float .f64 b := by simpa using hb1
     have hbb : b = powL[j] := by have := (Prod.mk.inj hb2).1; simpa using this.symm
     rw [hvb, hbb]
     unfold powT
     rw [List.getD_eq_getElem?_getD, List.getElem?_eq_getElem hjl]
     rfl
end Go.Proofs.YtcgpflkaejbkhaaGreatDoor
