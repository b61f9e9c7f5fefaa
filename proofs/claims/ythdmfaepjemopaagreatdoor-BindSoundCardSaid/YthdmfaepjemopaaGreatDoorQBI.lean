/- The walk of BindSound: its contract. -/
import Derived.Test.YthdmfaepjemopaaGreatDoorQBF
import Derived.Test.YthdmfaepjemopaaGreatDoorQBE
namespace Go.Proofs.YthdmfaepjemopaaGreatDoor
open Go.RowKit

theorem snd_any (n : Nat) (hn : 0 < n) (A : Option Addr) (c : Nat) (ia : Option Addr) (il ik : Nat) (ts : List (Tab × List Col)) (x : St) (w : World) (hD : DeepAt w A ts) (hX : StAt w n x) (hS : (∀ y ∈ x.xs, StrX n y) ∧ (∀ y ∈ x.hs, StrX n y) ∧ (∀ y ∈ x.us, StrX n y) ∧ ∀ o ∈ x.ol, StrX n o.1) :
    Calls Tryz.prog 3 #[.agg #[.slice A ts.length c, .slice ia il ik], stV x] w (RetV (.bool true) w) := by
  obtain ⟨s1, s2, s3, s4⟩ := hS
  have HSM : ∀ W, Below w.heap.size w W → Calls Tryz.prog 7 #[.agg #[.slice A ts.length c, .slice ia il ik]] W (RetV (.bool (smallR ts)) W) := fun W hB => small_any A c ia il ik ts W (hD.keep hB)
  have HFX : ∀ W, Below w.heap.size w W → Calls Tryz.prog 8 #[.slice x.xA x.xs.length x.xc] W (RetV (.bool (fewR n x.xs)) W) := fun W hB => few_any n x.xA x.xc x.xs W (hX.xs.keep hB) s1
  have HFH : ∀ W, Below w.heap.size w W → Calls Tryz.prog 8 #[.slice x.hA x.hs.length x.hc] W (RetV (.bool (fewR n x.hs)) W) := fun W hB => few_any n x.hA x.hc x.hs W (hX.hs.keep hB) s2
  have HFU : ∀ W, Below w.heap.size w W → Calls Tryz.prog 8 #[.slice x.uA x.us.length x.uc] W (RetV (.bool (fewR n x.us)) W) := fun W hB => few_any n x.uA x.uc x.us W (hX.us.keep hB) s3
  have key : ∀ b1 b2 b3 b4, b1 = smallR ts → b2 = fewR n x.xs → b3 = fewR n x.hs → b4 = fewR n x.us → Calls Tryz.prog 3 #[.agg #[.slice A ts.length c, .slice ia il ik], stV x] w (RetV (.bool true) w) := by
    intro b1 b2 b3 b4 e1 e2 e3 e4
    rw [← e1] at HSM
    rw [← e2] at HFX
    rw [← e3] at HFH
    rw [← e4] at HFU
    cases b1 with
    | false => exact snd_x0 n ts w A ts.length c ia il ik x.kind x.tab x.ya x.yn x.yc x.za x.zn x.zc x.va x.vn x.vc x.star x.xA x.xs.length x.xc x.fA x.fs.length x.fc x.hA x.hs.length x.hc x.uA x.us.length x.uc x.oA x.ol.length x.oc x.lim true b2 b3 b4 HSM HFX HFH HFU
    | true =>
      cases b2 with
      | false => exact snd_x1 n ts w A ts.length c ia il ik x.kind x.tab x.ya x.yn x.yc x.za x.zn x.zc x.va x.vn x.vc x.star x.xA x.xs.length x.xc x.fA x.fs.length x.fc x.hA x.hs.length x.hc x.uA x.us.length x.uc x.oA x.ol.length x.oc x.lim true true b3 b4 HSM HFX HFH HFU
      | true =>
        cases b3 with
        | false => exact snd_x2 n ts w A ts.length c ia il ik x.kind x.tab x.ya x.yn x.yc x.za x.zn x.zc x.va x.vn x.vc x.star x.xA x.xs.length x.xc x.fA x.fs.length x.fc x.hA x.hs.length x.hc x.uA x.us.length x.uc x.oA x.ol.length x.oc x.lim true true true b4 HSM HFX HFH HFU
        | true =>
          cases b4 with
          | false => exact snd_x3 n ts w A ts.length c ia il ik x.kind x.tab x.ya x.yn x.yc x.za x.zn x.zc x.va x.vn x.vc x.star x.xA x.xs.length x.xc x.fA x.fs.length x.fc x.hA x.hs.length x.hc x.uA x.us.length x.uc x.oA x.ol.length x.oc x.lim true true true true HSM HFX HFH HFU
          | true =>
            by_cases h5 : x.fs.length ≤ 12
            · have c5 : ((12 : Int) < (x.fs.length : Int)) = False := eq_false (by omega)
              by_cases h6 : x.ol.length ≤ 12
              · have c6 : ((12 : Int) < (x.ol.length : Int)) = False := eq_false (by omega)
                refine snd_go n ts w A ts.length c ia il ik x.kind x.tab x.ya x.yn x.yc x.za x.zn x.zc x.va x.vn x.vc x.star x.xA x.xs.length x.xc x.fA x.fs.length x.fc x.hA x.hs.length x.hc x.uA x.us.length x.uc x.oA x.ol.length x.oc x.lim true true true true HSM HFX HFH HFU c5 c6 fun a W hS2 hM => ?_
                have h12 := (small_iff.1 e1.symm).2
                have hSm : StSmall n x := small_st (few_iff.1 e2.symm) (few_iff.1 e3.symm) (few_iff.1 e4.symm).1 h6
                refine snd2 n ts w A ts.length c ia il ik x.kind x.tab x.ya x.yn x.yc x.za x.zn x.zc x.va x.vn x.vc x.star x.xA x.xs.length x.xc x.fA x.fs.length x.fc x.hA x.hs.length x.hc x.uA x.us.length x.uc x.oA x.ol.length x.oc x.lim x.ol a W hS2 hM rfl (CellsAt.keep hM.below hX.ol.1) (fun o ho => ⟨(hX.ol.2 o ho).keep hM.below, s4 o ho⟩) fun a' W' hS2' hB hM' => ?_
                have hsel := select_any n hn A c ia il ik ts x W' (hD.keep hM'.below) h12 (hX.keep hM'.below) hSm
                exact snd3 n ts w A ts.length c ia il ik x.kind x.tab x.ya x.yn x.yc x.za x.zn x.zc x.va x.vn x.vc x.star x.xA x.xs.length x.xc x.fA x.fs.length x.fc x.hA x.hs.length x.hc x.uA x.us.length x.uc x.oA x.ol.length x.oc x.lim hn x (chooseR n ts x) a' W' hS2' hM' (hD.keep hM'.below) h12 rfl hsel (fun er h => choose_err (fun y hy => (hX.xs.2 y hy).deep) (fun y hy => (hX.hs.2 y hy).deep) h) (fun q h => choose_sound hn h) rfl rfl rfl
              · exact snd_x5 n ts w A ts.length c ia il ik x.kind x.tab x.ya x.yn x.yc x.za x.zn x.zc x.va x.vn x.vc x.star x.xA x.xs.length x.xc x.fA x.fs.length x.fc x.hA x.hs.length x.hc x.uA x.us.length x.uc x.oA x.ol.length x.oc x.lim true true true true HSM HFX HFH HFU c5 (eq_true (by omega))
            · exact snd_x4 n ts w A ts.length c ia il ik x.kind x.tab x.ya x.yn x.yc x.za x.zn x.zc x.va x.vn x.vc x.star x.xA x.xs.length x.xc x.fA x.fs.length x.fc x.hA x.hs.length x.hc x.uA x.us.length x.uc x.oA x.ol.length x.oc x.lim true true true true HSM HFX HFH HFU (eq_true (by omega))
  exact key _ _ _ _ rfl rfl rfl rfl
end Go.Proofs.YthdmfaepjemopaaGreatDoor
