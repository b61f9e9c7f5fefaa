/- The walk of the program's digits, the whole. -/
import Derived.Test.YtoafiombpokpaaaGreatDoorDig
import Derived.Test.YtoafiombpokpaaaGreatDoorShelf
namespace Go.Proofs.YtoafiombpokpaaaGreatDoor
open Go.RowKit

/-- what FormatFloat answers for this float, in every world above this one -/
def FFC (f : Nat) (s : List UInt8) (w0 : World) : Prop := ∀ w, Below w0.heap.size w0 w →
  Calls Tryz.prog 19 #[.float .f64 f, .int .u8 103, .int .i64 (-1), .int .i64 64] w fun e w' => e = .returned (.string ⟨s.toArray⟩) ∧ Below w.heap.size w w'
def nanT : List UInt8 := [78, 97, 78]
def infT : List UInt8 := [73, 110, 102]
def ninfT : List UInt8 := [45, 73, 110, 102]
/-- is it a number with a finite value? -/
def finF (f : Nat) : Bool := feq f f && !gtM f && !ltM f
/-- what is written of a float, given what FormatFloat answers -/
def flT (f : Nat) (s : List UInt8) : List UInt8 := if feq f f = false then nanT else if gtM f = true then infT else if ltM f = true then ninfT else if pointed s = true then s else s ++ [46, 48]

theorem cat_text (l m : List UInt8) : (⟨l.toArray⟩ ++ ⟨m.toArray⟩ : ByteArray) = ⟨(l ++ m).toArray⟩ := by
  apply ByteArray.ext
  simp
theorem trim_at (s : List UInt8) (hs : s.length ≤ 1000) (w : World) :
    Calls Tryz.prog 28 #[.string ⟨s.toArray⟩, .string ⟨#[45, 48, 49, 50, 51, 52, 53, 54, 55, 56, 57]⟩] w fun e w' => e = .returned (.string ⟨(Lib.trimS s cutS).toArray⟩) ∧ Below w.heap.size w w' :=
  Any.strings_Trim_laid Tryz.lays160 (by kernel_rfl) ⟨s.toArray⟩ ⟨#[45, 48, 49, 50, 51, 52, 53, 54, 55, 56, 57]⟩ w (by show s.toArray.size ≤ _; rw [List.size_toArray]; omega) (by decide) (ascii_of_all (by decide))

def DigO (f : Nat) (s : List UInt8) (w : World) (e : Ending) (w' : World) : Prop := e = .returned (.string ⟨(flT f s).toArray⟩) ∧ Below w.heap.size w w'
set_option maxRecDepth 100000 in
set_option maxHeartbeats 2000000 in
theorem dig_any (f : Nat) (s : List UInt8) (w0 : World) (hf : f < 18446744073709551616) (hs : FlS s) (hsl : s.length ≤ 1000) (HF : finF f = true → FFC f s w0) :
    ∀ w, Below w0.heap.size w0 w → Calls Tryz.prog 15 #[.float .f64 f] w (DigO f s w) := by
  intro w hw
  have HN := Lib.hid (fun w => isnan_any f w)
  have HU := Lib.hid (fun w => isinf_up f w)
  have HD := Lib.hid (fun w => isinf_down f hf w)
  cases h0 : feq f f with
  | false =>
    have HR := Lib.hid (show flT f s = nanT by unfold flT; rw [if_pos h0])
    rw [h0] at HN
    go_enter Tryz.func15, Tryz.ntmps15
    go_wp2_with (first
      | (go_at_call 26; (with_reducible refine (HN.out _).mono ?_); rintro e1 w2 ⟨rfl, rfl⟩)
      | fail)
    go_ret
    exact ⟨by rw [HR.out]; rfl, Below.refl _ _⟩
  | true =>
    rw [h0] at HN
    cases h1 : gtM f with
    | true =>
      have HR := Lib.hid (show flT f s = infT by unfold flT; rw [if_neg (by rw [h0]; decide), if_pos h1])
      rw [h1] at HU
      go_enter Tryz.func15, Tryz.ntmps15
      go_wp2_with (first
        | (go_at_call 26; (with_reducible refine (HN.out _).mono ?_); rintro e1 w2 ⟨rfl, rfl⟩)
        | (go_at_call 27; (with_reducible refine (HU.out _).mono ?_); rintro e1 w2 ⟨rfl, rfl⟩)
        | fail)
      go_ret
      exact ⟨by rw [HR.out]; rfl, Below.refl _ _⟩
    | false =>
      rw [h1] at HU
      cases h2 : ltM f with
      | true =>
        have HR := Lib.hid (show flT f s = ninfT by unfold flT; rw [if_neg (by rw [h0]; decide), if_neg (by rw [h1]; decide), if_pos h2])
        rw [h2] at HD
        go_enter Tryz.func15, Tryz.ntmps15
        go_wp2_with (first
          | (go_at_call 26; (with_reducible refine (HN.out _).mono ?_); rintro e1 w2 ⟨rfl, rfl⟩)
          | (go_at_call 27; (with_reducible refine (HU.out _).mono ?_); rintro e1 w2 ⟨rfl, rfl⟩)
          | (go_at_call 27; (with_reducible refine (HD.out _).mono ?_); rintro e1 w2 ⟨rfl, rfl⟩)
          | fail)
        go_ret
        exact ⟨by rw [HR.out]; rfl, Below.refl _ _⟩
      | false =>
        rw [h2] at HD
        have HF := Lib.hid (HF (by unfold finF; rw [h0, h1, h2]; rfl) w hw)
        have HT := Lib.hid (fun w => trim_at s hsl w)
        cases h3 : pointed s with
        | true =>
          have HR := Lib.hid (show flT f s = s by unfold flT; rw [if_neg (by rw [h0]; decide), if_neg (by rw [h1]; decide), if_neg (by rw [h2]; decide), if_pos h3])
          have hne : Lib.trimS s cutS ≠ [] := fun e => by rw [(pointed_trim hs).2 e] at h3; cases h3
          have hq : (Lib.trimS s cutS).isEmpty = false := by simpa using hne
          generalize Lib.trimS s cutS = t at HT hq
          clear hne h0 h1 h2 h3 hs hf
          go_enter Tryz.func15, Tryz.ntmps15
          go_wp2_with (first
            | (go_at_call 26; (with_reducible refine (HN.out _).mono ?_); rintro e1 w2 ⟨rfl, rfl⟩)
            | (go_at_call 27; (with_reducible refine (HU.out _).mono ?_); rintro e1 w2 ⟨rfl, rfl⟩)
            | (go_at_call 27; (with_reducible refine (HD.out _).mono ?_); rintro e1 w2 ⟨rfl, rfl⟩)
            | (go_at_call 19; (with_reducible refine HF.out.mono ?_); rintro e1 w2 ⟨rfl, hb2⟩)
            | (go_at_call 28; (with_reducible refine (HT.out _).mono ?_); rintro e1 w3 ⟨rfl, hb3⟩)
            | fail)
          go_ret
          exact ⟨by rw [HR.out]; rfl, hb2.trans (hb3.mono hb2.size)⟩
        | false =>
          have HR := Lib.hid (show flT f s = s ++ [46, 48] by unfold flT; rw [if_neg (by rw [h0]; decide), if_neg (by rw [h1]; decide), if_neg (by rw [h2]; decide), if_neg (by rw [h3]; decide)])
          have he := (pointed_trim hs).1 h3
          have hq : (Lib.trimS s cutS).isEmpty = true := by rw [he]; rfl
          generalize Lib.trimS s cutS = t at HT hq
          clear he h0 h1 h2 h3 hs hf
          go_enter Tryz.func15, Tryz.ntmps15
          go_wp2_with (first
            | (go_at_call 26; (with_reducible refine (HN.out _).mono ?_); rintro e1 w2 ⟨rfl, rfl⟩)
            | (go_at_call 27; (with_reducible refine (HU.out _).mono ?_); rintro e1 w2 ⟨rfl, rfl⟩)
            | (go_at_call 27; (with_reducible refine (HD.out _).mono ?_); rintro e1 w2 ⟨rfl, rfl⟩)
            | (go_at_call 19; (with_reducible refine HF.out.mono ?_); rintro e1 w2 ⟨rfl, hb2⟩)
            | (go_at_call 28; (with_reducible refine (HT.out _).mono ?_); rintro e1 w3 ⟨rfl, hb3⟩)
            | fail)
          go_ret
          exact ⟨by rw [HR.out, ← cat_text]; rfl, hb2.trans (hb3.mono hb2.size)⟩
end Go.Proofs.YtoafiombpokpaaaGreatDoor
