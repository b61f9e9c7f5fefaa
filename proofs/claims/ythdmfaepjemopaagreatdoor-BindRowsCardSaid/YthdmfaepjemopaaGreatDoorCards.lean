/-
  DERIVED. GIVEN WITH THE SEED: THE CARDS: each row of YthdmfaepjemopaaGreatDoorRows.lean that lists a variable, with what it lists TIED to the program's text (the seventh form; the later family's looks); each row that meets fmt, with fmt's text TOLD by the authors' own Lean function (tested against real Go, not proved from fmt's source: count such statements apart). THE CARD IS WHAT COUNTS. Prove the row's statement (the work); the ties are given (YthdmfaepjemopaaGreatDoorTie.lean); close each card by the builder's one call (the guide's Derived/Test/ToyasCard.lean, 'card_holds'). Laid BY PROGRAM, IN A SANDBOX (cutbox-door.mjs). By AI agents, Wed Nov 11 2026. No macro, syntax, notation, axiom, sorry.
-/
import Derived.Test.YthdmfaepjemopaaGreatDoorRows
import GoSem.ClaimSeven
namespace Go.Proofs.YthdmfaepjemopaaGreatDoor
namespace Rows

/-- THE TIED CARD OF 'dowserlaw13.BindSound'. -/
def bindSoundCard : Claim7 := { stood := { row := bindSoundRow, standIns := [], harness := (true, "114685dabf20af245237a92607544065db4ce830254b1284406cfdc9125c9a22"), looks := true }, kinds := [], alts := [], laidByText := true, laidKinds := [.data, .data, .widerDeep, .widerDeep, .data, .data, .data, .data, .data, .sentinel, .sentinel, .pinned, .pinned], laidTests := true, laidLooks := .later }
def BindSoundCardSaid : Prop := Claim7.holds Tryz.pinned (.plain (OpenSpec.ofChange bindSoundSpec)) bindSoundCard

/-- THE TIED CARD OF 'dowserlaw13.BindAs'. -/
def bindAsCard : Claim7 := { stood := { row := bindAsRow, standIns := [], harness := (true, "114685dabf20af245237a92607544065db4ce830254b1284406cfdc9125c9a22"), looks := true }, kinds := [], alts := [], laidByText := true, laidKinds := [.data, .data, .widerDeep, .widerDeep, .data, .data, .data, .data, .data, .sentinel, .sentinel, .pinned, .pinned], laidTests := true, laidLooks := .later }
def BindAsCardSaid : Prop := Claim7.holds Tryz.pinned (.plain (OpenSpec.ofChange bindAsSpec)) bindAsCard

/-- THE TIED CARD OF 'dowserlaw13.BindRows'. -/
def bindRowsCard : Claim7 := { stood := { row := bindRowsRow, standIns := [], harness := (true, "114685dabf20af245237a92607544065db4ce830254b1284406cfdc9125c9a22"), looks := true }, kinds := [], alts := [], laidByText := true, laidKinds := [.data, .data, .widerDeep, .widerDeep, .data, .data, .data, .data, .data, .sentinel, .sentinel, .pinned, .pinned], laidTests := true, laidLooks := .later }
def BindRowsCardSaid : Prop := Claim7.holds Tryz.pinned (.plain (OpenSpec.ofChange bindRowsSpec)) bindRowsCard

/-- THE SECOND FORM's CARD OF 'dowserlaw13.BindSound'. -/
def bindSoundUptoCard : Claim7 := { stood := { row := bindSoundUptoRow, standIns := [], harness := (true, "114685dabf20af245237a92607544065db4ce830254b1284406cfdc9125c9a22"), looks := true }, kinds := [], alts := [], laidByText := true, laidKinds := [.data, .data, .widerDeep, .widerDeep, .data, .data, .data, .data, .data, .sentinel, .sentinel, .pinned, .pinned], laidTests := true, laidLooks := .later }
def BindSoundUptoCardSaid : Prop := Claim7.holds Tryz.pinned (.plain (OpenSpec.upto bindSoundSpec)) bindSoundUptoCard

/-- THE SECOND FORM's CARD OF 'dowserlaw13.BindAs'. -/
def bindAsUptoCard : Claim7 := { stood := { row := bindAsUptoRow, standIns := [], harness := (true, "114685dabf20af245237a92607544065db4ce830254b1284406cfdc9125c9a22"), looks := true }, kinds := [], alts := [], laidByText := true, laidKinds := [.data, .data, .widerDeep, .widerDeep, .data, .data, .data, .data, .data, .sentinel, .sentinel, .pinned, .pinned], laidTests := true, laidLooks := .later }
def BindAsUptoCardSaid : Prop := Claim7.holds Tryz.pinned (.plain (OpenSpec.upto bindAsSpec)) bindAsUptoCard

/-- THE SECOND FORM's CARD OF 'dowserlaw13.BindRows'. -/
def bindRowsUptoCard : Claim7 := { stood := { row := bindRowsUptoRow, standIns := [], harness := (true, "114685dabf20af245237a92607544065db4ce830254b1284406cfdc9125c9a22"), looks := true }, kinds := [], alts := [], laidByText := true, laidKinds := [.data, .data, .widerDeep, .widerDeep, .data, .data, .data, .data, .data, .sentinel, .sentinel, .pinned, .pinned], laidTests := true, laidLooks := .later }
def BindRowsUptoCardSaid : Prop := Claim7.holds Tryz.pinned (.plain (OpenSpec.upto bindRowsSpec)) bindRowsUptoCard
end Rows
end Go.Proofs.YthdmfaepjemopaaGreatDoor
