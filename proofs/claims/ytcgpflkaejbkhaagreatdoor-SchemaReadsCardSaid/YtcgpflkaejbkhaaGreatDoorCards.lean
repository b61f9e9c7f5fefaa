/-
  DERIVED. GIVEN WITH THE SEED: THE CARDS: each row of YtcgpflkaejbkhaaGreatDoorRows.lean that lists a variable, with what it lists TIED to the program's text (the seventh form; the later family's looks); each row that meets fmt, with fmt's text TOLD by the authors' own Lean function (tested against real Go, not proved from fmt's source: count such statements apart). THE CARD IS WHAT COUNTS. Prove the row's statement (the work); the ties are given (YtcgpflkaejbkhaaGreatDoorTie.lean); close each card by the builder's one call (the guide's Derived/Test/ToyasCard.lean, 'card_holds'). Laid BY PROGRAM, IN A SANDBOX (cutbox-door.mjs). By AI agents, Wed Nov 11 2026. No macro, syntax, notation, axiom, sorry.
-/
import Derived.Test.YtcgpflkaejbkhaaGreatDoorRows
import GoSem.ClaimSeven
namespace Go.Proofs.YtcgpflkaejbkhaaGreatDoor
namespace Rows

/-- THE TIED CARD OF 'dowserlaw12.SchemaOwn'. -/
def schemaOwnCard : Claim7 := { stood := { row := schemaOwnRow, standIns := [], harness := (true, "4af363f5eb9d60060981546d5ffb64888304f47de2b277312bef4a0e0cf727c1"), looks := true }, kinds := [], alts := [], laidByText := true, laidKinds := [.data, .data, .widerDeep, .widerDeep, .data, .data, .data, .data, .data, .sentinel, .sentinel, .pinned, .pinned], laidTests := true, laidLooks := .later }
def SchemaOwnCardSaid : Prop := Claim7.holds Tryz.pinned (.plain (OpenSpec.ofChange schemaOwnSpec)) schemaOwnCard

/-- THE TIED CARD OF 'dowserlaw12.SchemaPlays'. -/
def schemaPlaysCard : Claim7 := { stood := { row := schemaPlaysRow, standIns := [], harness := (true, "4af363f5eb9d60060981546d5ffb64888304f47de2b277312bef4a0e0cf727c1"), looks := true }, kinds := [], alts := [], laidByText := true, laidKinds := [.data, .data, .widerDeep, .widerDeep, .data, .data, .data, .data, .data, .sentinel, .sentinel, .pinned, .pinned], laidTests := true, laidLooks := .later }
def SchemaPlaysCardSaid : Prop := Claim7.holds Tryz.pinned (.plain (OpenSpec.ofChange schemaPlaysSpec)) schemaPlaysCard

/-- THE TIED CARD OF 'dowserlaw12.SchemaAny'. -/
def schemaAnyCard : Claim7 := { stood := { row := schemaAnyRow, standIns := [], harness := (true, "4af363f5eb9d60060981546d5ffb64888304f47de2b277312bef4a0e0cf727c1"), looks := true }, kinds := [], alts := [], laidByText := true, laidKinds := [.data, .data, .widerDeep, .widerDeep, .data, .data, .data, .data, .data, .sentinel, .sentinel, .pinned, .pinned], laidTests := true, laidLooks := .later }
def SchemaAnyCardSaid : Prop := Claim7.holds Tryz.pinned (.plain (OpenSpec.ofChange schemaAnySpec)) schemaAnyCard

/-- THE TIED CARD OF 'dowserlaw12.SchemaReads'. -/
def schemaReadsCard : Claim7 := { stood := { row := schemaReadsRow, standIns := [], harness := (true, "4af363f5eb9d60060981546d5ffb64888304f47de2b277312bef4a0e0cf727c1"), looks := true }, kinds := [], alts := [], laidByText := true, laidKinds := [.data, .data, .widerDeep, .widerDeep, .data, .data, .data, .data, .data, .sentinel, .sentinel, .pinned, .pinned], laidTests := true, laidLooks := .later }
def SchemaReadsCardSaid : Prop := Claim7.holds Tryz.pinned (.plain (OpenSpec.ofChange schemaReadsSpec)) schemaReadsCard

/-- THE SECOND FORM's CARD OF 'dowserlaw12.SchemaOwn'. -/
def schemaOwnUptoCard : Claim7 := { stood := { row := schemaOwnUptoRow, standIns := [], harness := (true, "4af363f5eb9d60060981546d5ffb64888304f47de2b277312bef4a0e0cf727c1"), looks := true }, kinds := [], alts := [], laidByText := true, laidKinds := [.data, .data, .widerDeep, .widerDeep, .data, .data, .data, .data, .data, .sentinel, .sentinel, .pinned, .pinned], laidTests := true, laidLooks := .later }
def SchemaOwnUptoCardSaid : Prop := Claim7.holds Tryz.pinned (.plain (OpenSpec.upto schemaOwnSpec)) schemaOwnUptoCard

/-- THE SECOND FORM's CARD OF 'dowserlaw12.SchemaPlays'. -/
def schemaPlaysUptoCard : Claim7 := { stood := { row := schemaPlaysUptoRow, standIns := [], harness := (true, "4af363f5eb9d60060981546d5ffb64888304f47de2b277312bef4a0e0cf727c1"), looks := true }, kinds := [], alts := [], laidByText := true, laidKinds := [.data, .data, .widerDeep, .widerDeep, .data, .data, .data, .data, .data, .sentinel, .sentinel, .pinned, .pinned], laidTests := true, laidLooks := .later }
def SchemaPlaysUptoCardSaid : Prop := Claim7.holds Tryz.pinned (.plain (OpenSpec.upto schemaPlaysSpec)) schemaPlaysUptoCard

/-- THE SECOND FORM's CARD OF 'dowserlaw12.SchemaAny'. -/
def schemaAnyUptoCard : Claim7 := { stood := { row := schemaAnyUptoRow, standIns := [], harness := (true, "4af363f5eb9d60060981546d5ffb64888304f47de2b277312bef4a0e0cf727c1"), looks := true }, kinds := [], alts := [], laidByText := true, laidKinds := [.data, .data, .widerDeep, .widerDeep, .data, .data, .data, .data, .data, .sentinel, .sentinel, .pinned, .pinned], laidTests := true, laidLooks := .later }
def SchemaAnyUptoCardSaid : Prop := Claim7.holds Tryz.pinned (.plain (OpenSpec.upto schemaAnySpec)) schemaAnyUptoCard

/-- THE SECOND FORM's CARD OF 'dowserlaw12.SchemaReads'. -/
def schemaReadsUptoCard : Claim7 := { stood := { row := schemaReadsUptoRow, standIns := [], harness := (true, "4af363f5eb9d60060981546d5ffb64888304f47de2b277312bef4a0e0cf727c1"), looks := true }, kinds := [], alts := [], laidByText := true, laidKinds := [.data, .data, .widerDeep, .widerDeep, .data, .data, .data, .data, .data, .sentinel, .sentinel, .pinned, .pinned], laidTests := true, laidLooks := .later }
def SchemaReadsUptoCardSaid : Prop := Claim7.holds Tryz.pinned (.plain (OpenSpec.upto schemaReadsSpec)) schemaReadsUptoCard
end Rows
end Go.Proofs.YtcgpflkaejbkhaaGreatDoor
