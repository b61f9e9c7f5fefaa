/-
  DERIVED. GIVEN WITH THE SEED: THE CARDS: each row of YtjlpjooaclfnlaaGreatDoorRows.lean that lists a variable, with what it lists TIED to the program's text (the seventh form; the later family's looks); each row that meets fmt, with fmt's text TOLD by the authors' own Lean function (tested against real Go, not proved from fmt's source: count such statements apart). THE CARD IS WHAT COUNTS. Prove the row's statement (the work); the ties are given (YtjlpjooaclfnlaaGreatDoorTie.lean); close each card by the builder's one call (the guide's Derived/Test/ToyasCard.lean, 'card_holds'). Laid BY PROGRAM, IN A SANDBOX (cutbox-door.mjs). By AI agents, Wed Nov 11 2026. No macro, syntax, notation, axiom, sorry.
-/
import Derived.Test.YtjlpjooaclfnlaaGreatDoorRows
import GoSem.ClaimSeven
namespace Go.Proofs.YtjlpjooaclfnlaaGreatDoor
namespace Rows

/-- THE TIED CARD OF 'dowserlaw07.ValueLine'. -/
def valueLineCard : Claim7 := { stood := { row := valueLineRow, standIns := [], harness := (true, "7f1a400b5c8108f83bf61da0a8017ffc861519b0e818b843a99af668a1cadae2"), looks := false }, kinds := [], alts := [], laidByText := true, laidKinds := [.data, .data, .data, .data, .data, .pinned, .pinned, .pinned], laidTests := true, laidLooks := .later }
def ValueLineCardSaid : Prop := Claim7.holds Tryz.pinned (.plain (OpenSpec.ofChange valueLineSpec)) valueLineCard

/-- THE TIED CARD OF 'dowserlaw07.ValueBack'. -/
def valueBackCard : Claim7 := { stood := { row := valueBackRow, standIns := [], harness := (true, "7f1a400b5c8108f83bf61da0a8017ffc861519b0e818b843a99af668a1cadae2"), looks := false }, kinds := [], alts := [], laidByText := true, laidKinds := [.data, .data, .data, .data, .data, .pinned, .pinned, .pinned], laidTests := true, laidLooks := .later }
def ValueBackCardSaid : Prop := Claim7.holds Tryz.pinned (.plain (OpenSpec.ofChange valueBackSpec)) valueBackCard

/-- THE TIED CARD OF 'dowserlaw07.ValueMakes'. -/
def valueMakesCard : Claim7 := { stood := { row := valueMakesRow, standIns := [], harness := (true, "7f1a400b5c8108f83bf61da0a8017ffc861519b0e818b843a99af668a1cadae2"), looks := false }, kinds := [], alts := [], laidByText := true, laidKinds := [.data, .data, .data, .data, .data, .pinned, .pinned, .pinned], laidTests := true, laidLooks := .later }
def ValueMakesCardSaid : Prop := Claim7.holds Tryz.pinned (.plain (OpenSpec.ofChange valueMakesSpec)) valueMakesCard

/-- THE TIED CARD OF 'dowserlaw07.ValueOrders'. -/
def valueOrdersCard : Claim7 := { stood := { row := valueOrdersRow, standIns := [], harness := (true, "7f1a400b5c8108f83bf61da0a8017ffc861519b0e818b843a99af668a1cadae2"), looks := false }, kinds := [], alts := [], laidByText := true, laidKinds := [.data, .data, .data, .data, .data, .pinned, .pinned, .pinned], laidTests := true, laidLooks := .later }
def ValueOrdersCardSaid : Prop := Claim7.holds Tryz.pinned (.plain (OpenSpec.ofChange valueOrdersSpec)) valueOrdersCard

/-- THE TIED CARD OF 'dowserlaw07.ValueCleans'. -/
def valueCleansCard : Claim7 := { stood := { row := valueCleansRow, standIns := [], harness := (true, "7f1a400b5c8108f83bf61da0a8017ffc861519b0e818b843a99af668a1cadae2"), looks := false }, kinds := [], alts := [], laidByText := true, laidKinds := [.data, .data, .data, .data, .data, .pinned, .pinned, .pinned], laidTests := true, laidLooks := .later }
def ValueCleansCardSaid : Prop := Claim7.holds Tryz.pinned (.plain (OpenSpec.ofChange valueCleansSpec)) valueCleansCard

/-- THE TIED CARD OF 'dowserlaw07.ValueReckons'. -/
def valueReckonsCard : Claim7 := { stood := { row := valueReckonsRow, standIns := [], harness := (true, "7f1a400b5c8108f83bf61da0a8017ffc861519b0e818b843a99af668a1cadae2"), looks := false }, kinds := [], alts := [], laidByText := true, laidKinds := [.data, .data, .data, .data, .data, .pinned, .pinned, .pinned], laidTests := true, laidLooks := .later }
def ValueReckonsCardSaid : Prop := Claim7.holds Tryz.pinned (.plain (OpenSpec.ofChange valueReckonsSpec)) valueReckonsCard

/-- THE TIED CARD OF 'dowserlaw07.ValueTruths'. -/
def valueTruthsCard : Claim7 := { stood := { row := valueTruthsRow, standIns := [], harness := (true, "7f1a400b5c8108f83bf61da0a8017ffc861519b0e818b843a99af668a1cadae2"), looks := false }, kinds := [], alts := [], laidByText := true, laidKinds := [.data, .data, .data, .data, .data, .pinned, .pinned, .pinned], laidTests := true, laidLooks := .later }
def ValueTruthsCardSaid : Prop := Claim7.holds Tryz.pinned (.plain (OpenSpec.ofChange valueTruthsSpec)) valueTruthsCard

/-- THE TIED CARD OF 'dowserlaw07.ValueRules'. -/
def valueRulesCard : Claim7 := { stood := { row := valueRulesRow, standIns := [], harness := (true, "7f1a400b5c8108f83bf61da0a8017ffc861519b0e818b843a99af668a1cadae2"), looks := false }, kinds := [], alts := [], laidByText := true, laidKinds := [.data, .data, .data, .data, .data, .pinned, .pinned, .pinned], laidTests := true, laidLooks := .later }
def ValueRulesCardSaid : Prop := Claim7.holds Tryz.pinned (.plain (OpenSpec.ofChange valueRulesSpec)) valueRulesCard

/-- THE SECOND FORM's CARD OF 'dowserlaw07.ValueLine'. -/
def valueLineUptoCard : Claim7 := { stood := { row := valueLineUptoRow, standIns := [], harness := (true, "7f1a400b5c8108f83bf61da0a8017ffc861519b0e818b843a99af668a1cadae2"), looks := false }, kinds := [], alts := [], laidByText := true, laidKinds := [.data, .data, .data, .data, .data, .pinned, .pinned, .pinned], laidTests := true, laidLooks := .later }
def ValueLineUptoCardSaid : Prop := Claim7.holds Tryz.pinned (.plain (OpenSpec.upto valueLineSpec)) valueLineUptoCard

/-- THE SECOND FORM's CARD OF 'dowserlaw07.ValueBack'. -/
def valueBackUptoCard : Claim7 := { stood := { row := valueBackUptoRow, standIns := [], harness := (true, "7f1a400b5c8108f83bf61da0a8017ffc861519b0e818b843a99af668a1cadae2"), looks := false }, kinds := [], alts := [], laidByText := true, laidKinds := [.data, .data, .data, .data, .data, .pinned, .pinned, .pinned], laidTests := true, laidLooks := .later }
def ValueBackUptoCardSaid : Prop := Claim7.holds Tryz.pinned (.plain (OpenSpec.upto valueBackSpec)) valueBackUptoCard

/-- THE SECOND FORM's CARD OF 'dowserlaw07.ValueMakes'. -/
def valueMakesUptoCard : Claim7 := { stood := { row := valueMakesUptoRow, standIns := [], harness := (true, "7f1a400b5c8108f83bf61da0a8017ffc861519b0e818b843a99af668a1cadae2"), looks := false }, kinds := [], alts := [], laidByText := true, laidKinds := [.data, .data, .data, .data, .data, .pinned, .pinned, .pinned], laidTests := true, laidLooks := .later }
def ValueMakesUptoCardSaid : Prop := Claim7.holds Tryz.pinned (.plain (OpenSpec.upto valueMakesSpec)) valueMakesUptoCard

/-- THE SECOND FORM's CARD OF 'dowserlaw07.ValueOrders'. -/
def valueOrdersUptoCard : Claim7 := { stood := { row := valueOrdersUptoRow, standIns := [], harness := (true, "7f1a400b5c8108f83bf61da0a8017ffc861519b0e818b843a99af668a1cadae2"), looks := false }, kinds := [], alts := [], laidByText := true, laidKinds := [.data, .data, .data, .data, .data, .pinned, .pinned, .pinned], laidTests := true, laidLooks := .later }
def ValueOrdersUptoCardSaid : Prop := Claim7.holds Tryz.pinned (.plain (OpenSpec.upto valueOrdersSpec)) valueOrdersUptoCard

/-- THE SECOND FORM's CARD OF 'dowserlaw07.ValueCleans'. -/
def valueCleansUptoCard : Claim7 := { stood := { row := valueCleansUptoRow, standIns := [], harness := (true, "7f1a400b5c8108f83bf61da0a8017ffc861519b0e818b843a99af668a1cadae2"), looks := false }, kinds := [], alts := [], laidByText := true, laidKinds := [.data, .data, .data, .data, .data, .pinned, .pinned, .pinned], laidTests := true, laidLooks := .later }
def ValueCleansUptoCardSaid : Prop := Claim7.holds Tryz.pinned (.plain (OpenSpec.upto valueCleansSpec)) valueCleansUptoCard

/-- THE SECOND FORM's CARD OF 'dowserlaw07.ValueReckons'. -/
def valueReckonsUptoCard : Claim7 := { stood := { row := valueReckonsUptoRow, standIns := [], harness := (true, "7f1a400b5c8108f83bf61da0a8017ffc861519b0e818b843a99af668a1cadae2"), looks := false }, kinds := [], alts := [], laidByText := true, laidKinds := [.data, .data, .data, .data, .data, .pinned, .pinned, .pinned], laidTests := true, laidLooks := .later }
def ValueReckonsUptoCardSaid : Prop := Claim7.holds Tryz.pinned (.plain (OpenSpec.upto valueReckonsSpec)) valueReckonsUptoCard

/-- THE SECOND FORM's CARD OF 'dowserlaw07.ValueTruths'. -/
def valueTruthsUptoCard : Claim7 := { stood := { row := valueTruthsUptoRow, standIns := [], harness := (true, "7f1a400b5c8108f83bf61da0a8017ffc861519b0e818b843a99af668a1cadae2"), looks := false }, kinds := [], alts := [], laidByText := true, laidKinds := [.data, .data, .data, .data, .data, .pinned, .pinned, .pinned], laidTests := true, laidLooks := .later }
def ValueTruthsUptoCardSaid : Prop := Claim7.holds Tryz.pinned (.plain (OpenSpec.upto valueTruthsSpec)) valueTruthsUptoCard

/-- THE SECOND FORM's CARD OF 'dowserlaw07.ValueRules'. -/
def valueRulesUptoCard : Claim7 := { stood := { row := valueRulesUptoRow, standIns := [], harness := (true, "7f1a400b5c8108f83bf61da0a8017ffc861519b0e818b843a99af668a1cadae2"), looks := false }, kinds := [], alts := [], laidByText := true, laidKinds := [.data, .data, .data, .data, .data, .pinned, .pinned, .pinned], laidTests := true, laidLooks := .later }
def ValueRulesUptoCardSaid : Prop := Claim7.holds Tryz.pinned (.plain (OpenSpec.upto valueRulesSpec)) valueRulesUptoCard
end Rows
end Go.Proofs.YtjlpjooaclfnlaaGreatDoor
