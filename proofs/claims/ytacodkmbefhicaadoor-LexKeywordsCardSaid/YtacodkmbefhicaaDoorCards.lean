/-
  DERIVED. GIVEN WITH THE SEED: THE CARDS: each row of YtacodkmbefhicaaDoorRows.lean that lists a variable, with what it lists TIED to the program's text (the seventh form; the later family's looks); each row that meets fmt, with fmt's text TOLD by the authors' own Lean function (tested against real Go, not proved from fmt's source: count such statements apart). THE CARD IS WHAT COUNTS. Prove the row's statement (the work); the ties are given (YtacodkmbefhicaaDoorTie.lean); close each card by the builder's one call (the guide's Derived/Test/ToyasCard.lean, 'card_holds'). Laid BY PROGRAM, IN A SANDBOX (cutbox-door.mjs). By AI agents, Wed Nov 11 2026. No macro, syntax, notation, axiom, sorry.
-/
import Derived.Test.YtacodkmbefhicaaDoorRows
import GoSem.ClaimSeven
namespace Go.Proofs.YtacodkmbefhicaaDoor
namespace Rows

/-- THE TIED CARD OF 'dowserlaw10.LexKeywords'. -/
def lexKeywordsCard : Claim7 := { stood := { row := lexKeywordsRow, standIns := [], harness := (true, "7d91b96f22602139dfdf59bca32f5853fa8ddb318b420411645a4e0505cfd4c2"), looks := true }, kinds := [], alts := [], laidByText := true, laidKinds := [.data, .data, .widerDeep, .widerDeep, .data, .data, .data, .data, .data, .sentinel, .sentinel, .pinned, .pinned], laidTests := true, laidLooks := .later }
def LexKeywordsCardSaid : Prop := Claim7.holds Tryd.pinned (.plain (OpenSpec.ofChange lexKeywordsSpec)) lexKeywordsCard

/-- THE SECOND FORM's CARD OF 'dowserlaw10.LexKeywords'. -/
def lexKeywordsUptoCard : Claim7 := { stood := { row := lexKeywordsUptoRow, standIns := [], harness := (true, "7d91b96f22602139dfdf59bca32f5853fa8ddb318b420411645a4e0505cfd4c2"), looks := true }, kinds := [], alts := [], laidByText := true, laidKinds := [.data, .data, .widerDeep, .widerDeep, .data, .data, .data, .data, .data, .sentinel, .sentinel, .pinned, .pinned], laidTests := true, laidLooks := .later }
def LexKeywordsUptoCardSaid : Prop := Claim7.holds Tryd.pinned (.plain (OpenSpec.upto lexKeywordsSpec)) lexKeywordsUptoCard
end Rows
end Go.Proofs.YtacodkmbefhicaaDoor
