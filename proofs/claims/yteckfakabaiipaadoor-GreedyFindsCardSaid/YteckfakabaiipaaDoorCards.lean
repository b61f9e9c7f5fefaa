/-
  DERIVED. GIVEN WITH THE SEED: THE CARDS: each row of YteckfakabaiipaaDoorRows.lean that lists a variable, with what it lists TIED to the program's text (the seventh form; the later family's looks); each row that meets fmt, with fmt's text TOLD by the authors' own Lean function (tested against real Go, not proved from fmt's source: count such statements apart). THE CARD IS WHAT COUNTS. Prove the row's statement (the work); the ties are given (YteckfakabaiipaaDoorTie.lean); close each card by the builder's one call (the guide's Derived/Test/ToyasCard.lean, 'card_holds'). Laid BY PROGRAM, IN A SANDBOX (cutbox-door.mjs). By AI agents, Wed Nov 11 2026. No macro, syntax, notation, axiom, sorry.
-/
import Derived.Test.YteckfakabaiipaaDoorRows
import GoSem.ClaimSeven
namespace Go.Proofs.YteckfakabaiipaaDoor
namespace Rows

/-- THE TIED CARD OF 'dowserlaw21.GreedyFinds'. -/
def greedyFindsCard : Claim7 := { stood := { row := greedyFindsRow, standIns := [], harness := (true, "ce10f0cdbc3ae3826ff099d637b7869a0cebfb041287bf2592ed1add4de23639"), looks := false }, kinds := [], alts := [], laidByText := true, laidKinds := [.data], laidTests := true, laidLooks := .later }
def GreedyFindsCardSaid : Prop := Claim7.holds Tryd.pinned (.plain (OpenSpec.ofChange greedyFindsSpec)) greedyFindsCard

/-- THE TIED CARD OF 'dowserlaw21.GreedyFits'. -/
def greedyFitsCard : Claim7 := { stood := { row := greedyFitsRow, standIns := [], harness := (true, "ce10f0cdbc3ae3826ff099d637b7869a0cebfb041287bf2592ed1add4de23639"), looks := false }, kinds := [], alts := [], laidByText := true, laidKinds := [.data], laidTests := true, laidLooks := .later }
def GreedyFitsCardSaid : Prop := Claim7.holds Tryd.pinned (.plain (OpenSpec.ofChange greedyFitsSpec)) greedyFitsCard

/-- THE TIED CARD OF 'dowserlaw21.GreedyAlone'. -/
def greedyAloneCard : Claim7 := { stood := { row := greedyAloneRow, standIns := [], harness := (true, "ce10f0cdbc3ae3826ff099d637b7869a0cebfb041287bf2592ed1add4de23639"), looks := false }, kinds := [], alts := [], laidByText := true, laidKinds := [.data], laidTests := true, laidLooks := .later }
def GreedyAloneCardSaid : Prop := Claim7.holds Tryd.pinned (.plain (OpenSpec.ofChange greedyAloneSpec)) greedyAloneCard

/-- THE TIED CARD OF 'dowserlaw21.GreedyArgs'. -/
def greedyArgsCard : Claim7 := { stood := { row := greedyArgsRow, standIns := [], harness := (true, "ce10f0cdbc3ae3826ff099d637b7869a0cebfb041287bf2592ed1add4de23639"), looks := false }, kinds := [], alts := [], laidByText := true, laidKinds := [.data], laidTests := true, laidLooks := .later }
def GreedyArgsCardSaid : Prop := Claim7.holds Tryd.pinned (.plain (OpenSpec.ofChange greedyArgsSpec)) greedyArgsCard

/-- THE SECOND FORM's CARD OF 'dowserlaw21.GreedyFinds'. -/
def greedyFindsUptoCard : Claim7 := { stood := { row := greedyFindsUptoRow, standIns := [], harness := (true, "ce10f0cdbc3ae3826ff099d637b7869a0cebfb041287bf2592ed1add4de23639"), looks := false }, kinds := [], alts := [], laidByText := true, laidKinds := [.data], laidTests := true, laidLooks := .later }
def GreedyFindsUptoCardSaid : Prop := Claim7.holds Tryd.pinned (.plain (OpenSpec.upto greedyFindsSpec)) greedyFindsUptoCard

/-- THE SECOND FORM's CARD OF 'dowserlaw21.GreedyFits'. -/
def greedyFitsUptoCard : Claim7 := { stood := { row := greedyFitsUptoRow, standIns := [], harness := (true, "ce10f0cdbc3ae3826ff099d637b7869a0cebfb041287bf2592ed1add4de23639"), looks := false }, kinds := [], alts := [], laidByText := true, laidKinds := [.data], laidTests := true, laidLooks := .later }
def GreedyFitsUptoCardSaid : Prop := Claim7.holds Tryd.pinned (.plain (OpenSpec.upto greedyFitsSpec)) greedyFitsUptoCard

/-- THE SECOND FORM's CARD OF 'dowserlaw21.GreedyAlone'. -/
def greedyAloneUptoCard : Claim7 := { stood := { row := greedyAloneUptoRow, standIns := [], harness := (true, "ce10f0cdbc3ae3826ff099d637b7869a0cebfb041287bf2592ed1add4de23639"), looks := false }, kinds := [], alts := [], laidByText := true, laidKinds := [.data], laidTests := true, laidLooks := .later }
def GreedyAloneUptoCardSaid : Prop := Claim7.holds Tryd.pinned (.plain (OpenSpec.upto greedyAloneSpec)) greedyAloneUptoCard

/-- THE SECOND FORM's CARD OF 'dowserlaw21.GreedyArgs'. -/
def greedyArgsUptoCard : Claim7 := { stood := { row := greedyArgsUptoRow, standIns := [], harness := (true, "ce10f0cdbc3ae3826ff099d637b7869a0cebfb041287bf2592ed1add4de23639"), looks := false }, kinds := [], alts := [], laidByText := true, laidKinds := [.data], laidTests := true, laidLooks := .later }
def GreedyArgsUptoCardSaid : Prop := Claim7.holds Tryd.pinned (.plain (OpenSpec.upto greedyArgsSpec)) greedyArgsUptoCard
end Rows
end Go.Proofs.YteckfakabaiipaaDoor
