/-
  DERIVED. GIVEN WITH THE SEED: THE CARDS: each row of YtikpgglbfpdhmaaGreatDoorRows.lean that lists a variable, with what it lists TIED to the program's text (the seventh form; the later family's looks); each row that meets fmt, with fmt's text TOLD by the authors' own Lean function (tested against real Go, not proved from fmt's source: count such statements apart). THE CARD IS WHAT COUNTS. Prove the row's statement (the work); the ties are given (YtikpgglbfpdhmaaGreatDoorTie.lean); close each card by the builder's one call (the guide's Derived/Test/ToyasCard.lean, 'card_holds'). Laid BY PROGRAM, IN A SANDBOX (cutbox-door.mjs). By AI agents, Wed Nov 11 2026. No macro, syntax, notation, axiom, sorry.
-/
import Derived.Test.YtikpgglbfpdhmaaGreatDoorRows
import GoSem.ClaimSeven
namespace Go.Proofs.YtikpgglbfpdhmaaGreatDoor
namespace Rows

/-- THE TIED CARD OF 'dowserlaw07.ValueLine'. -/
def valueLineCard : Claim7 := { stood := { row := valueLineRow, standIns := [], harness := (true, "b703ab0c3f137d0b6e1ced848bb32f8bfd7f2a908831a4453109a31aea3aa435"), looks := true }, kinds := [], alts := [], laidByText := true, laidKinds := [.data, .data, .data, .data, .data, .pinned, .pinned, .pinned], laidTests := true, laidLooks := .later }
def ValueLineCardSaid : Prop := Claim7.holds Tryz.pinned (.plain (OpenSpec.ofChange valueLineSpec)) valueLineCard

/-- THE TIED CARD OF 'dowserlaw07.ValueBack'. -/
def valueBackCard : Claim7 := { stood := { row := valueBackRow, standIns := [], harness := (true, "b703ab0c3f137d0b6e1ced848bb32f8bfd7f2a908831a4453109a31aea3aa435"), looks := true }, kinds := [], alts := [], laidByText := true, laidKinds := [.data, .data, .data, .data, .data, .pinned, .pinned, .pinned], laidTests := true, laidLooks := .later }
def ValueBackCardSaid : Prop := Claim7.holds Tryz.pinned (.plain (OpenSpec.ofChange valueBackSpec)) valueBackCard

/-- THE TIED CARD OF 'dowserlaw07.ValueWrites'. -/
def valueWritesCard : Claim7 := { stood := { row := valueWritesRow, standIns := [], harness := (true, "b703ab0c3f137d0b6e1ced848bb32f8bfd7f2a908831a4453109a31aea3aa435"), looks := true }, kinds := [], alts := [], laidByText := true, laidKinds := [.data, .data, .data, .data, .data, .pinned, .pinned, .pinned], laidTests := true, laidLooks := .later }
def ValueWritesCardSaid : Prop := Claim7.holds Tryz.pinned (.plain (OpenSpec.ofChange valueWritesSpec)) valueWritesCard

/-- THE TIED CARD OF 'dowserlaw07.ValueMakes'. -/
def valueMakesCard : Claim7 := { stood := { row := valueMakesRow, standIns := [], harness := (true, "b703ab0c3f137d0b6e1ced848bb32f8bfd7f2a908831a4453109a31aea3aa435"), looks := true }, kinds := [], alts := [], laidByText := true, laidKinds := [.data, .data, .data, .data, .data, .pinned, .pinned, .pinned], laidTests := true, laidLooks := .later }
def ValueMakesCardSaid : Prop := Claim7.holds Tryz.pinned (.plain (OpenSpec.ofChange valueMakesSpec)) valueMakesCard

/-- THE TIED CARD OF 'dowserlaw07.ValueOrders'. -/
def valueOrdersCard : Claim7 := { stood := { row := valueOrdersRow, standIns := [], harness := (true, "b703ab0c3f137d0b6e1ced848bb32f8bfd7f2a908831a4453109a31aea3aa435"), looks := true }, kinds := [], alts := [], laidByText := true, laidKinds := [.data, .data, .data, .data, .data, .pinned, .pinned, .pinned], laidTests := true, laidLooks := .later }
def ValueOrdersCardSaid : Prop := Claim7.holds Tryz.pinned (.plain (OpenSpec.ofChange valueOrdersSpec)) valueOrdersCard

/-- THE TIED CARD OF 'dowserlaw07.ValueCleans'. -/
def valueCleansCard : Claim7 := { stood := { row := valueCleansRow, standIns := [], harness := (true, "b703ab0c3f137d0b6e1ced848bb32f8bfd7f2a908831a4453109a31aea3aa435"), looks := true }, kinds := [], alts := [], laidByText := true, laidKinds := [.data, .data, .data, .data, .data, .pinned, .pinned, .pinned], laidTests := true, laidLooks := .later }
def ValueCleansCardSaid : Prop := Claim7.holds Tryz.pinned (.plain (OpenSpec.ofChange valueCleansSpec)) valueCleansCard

/-- THE TIED CARD OF 'dowserlaw07.ValueReckons'. -/
def valueReckonsCard : Claim7 := { stood := { row := valueReckonsRow, standIns := [], harness := (true, "b703ab0c3f137d0b6e1ced848bb32f8bfd7f2a908831a4453109a31aea3aa435"), looks := true }, kinds := [], alts := [], laidByText := true, laidKinds := [.data, .data, .data, .data, .data, .pinned, .pinned, .pinned], laidTests := true, laidLooks := .later }
def ValueReckonsCardSaid : Prop := Claim7.holds Tryz.pinned (.plain (OpenSpec.ofChange valueReckonsSpec)) valueReckonsCard

/-- THE TIED CARD OF 'dowserlaw07.ValueTruths'. -/
def valueTruthsCard : Claim7 := { stood := { row := valueTruthsRow, standIns := [], harness := (true, "b703ab0c3f137d0b6e1ced848bb32f8bfd7f2a908831a4453109a31aea3aa435"), looks := true }, kinds := [], alts := [], laidByText := true, laidKinds := [.data, .data, .data, .data, .data, .pinned, .pinned, .pinned], laidTests := true, laidLooks := .later }
def ValueTruthsCardSaid : Prop := Claim7.holds Tryz.pinned (.plain (OpenSpec.ofChange valueTruthsSpec)) valueTruthsCard

/-- THE TIED CARD OF 'dowserlaw07.ValueRules'. -/
def valueRulesCard : Claim7 := { stood := { row := valueRulesRow, standIns := [], harness := (true, "b703ab0c3f137d0b6e1ced848bb32f8bfd7f2a908831a4453109a31aea3aa435"), looks := true }, kinds := [], alts := [], laidByText := true, laidKinds := [.data, .data, .data, .data, .data, .pinned, .pinned, .pinned], laidTests := true, laidLooks := .later }
def ValueRulesCardSaid : Prop := Claim7.holds Tryz.pinned (.plain (OpenSpec.ofChange valueRulesSpec)) valueRulesCard

/-- THE TIED CARD OF 'dowserlaw07.ValueReads'. -/
def valueReadsCard : Claim7 := { stood := { row := valueReadsRow, standIns := [], harness := (true, "b703ab0c3f137d0b6e1ced848bb32f8bfd7f2a908831a4453109a31aea3aa435"), looks := true }, kinds := [], alts := [], laidByText := true, laidKinds := [.data, .data, .widerDeep, .widerDeep, .data, .data, .data, .data, .data, .data, .sentinel, .sentinel, .pinned, .pinned, .pinned], laidTests := true, laidLooks := .later }
def ValueReadsCardSaid : Prop := Claim7.holds Tryz.pinned (.plain (OpenSpec.ofChange valueReadsSpec)) valueReadsCard

/-- THE SECOND FORM's CARD OF 'dowserlaw07.ValueLine'. -/
def valueLineUptoCard : Claim7 := { stood := { row := valueLineUptoRow, standIns := [], harness := (true, "b703ab0c3f137d0b6e1ced848bb32f8bfd7f2a908831a4453109a31aea3aa435"), looks := true }, kinds := [], alts := [], laidByText := true, laidKinds := [.data, .data, .data, .data, .data, .pinned, .pinned, .pinned], laidTests := true, laidLooks := .later }
def ValueLineUptoCardSaid : Prop := Claim7.holds Tryz.pinned (.plain (OpenSpec.upto valueLineSpec)) valueLineUptoCard

/-- THE SECOND FORM's CARD OF 'dowserlaw07.ValueBack'. -/
def valueBackUptoCard : Claim7 := { stood := { row := valueBackUptoRow, standIns := [], harness := (true, "b703ab0c3f137d0b6e1ced848bb32f8bfd7f2a908831a4453109a31aea3aa435"), looks := true }, kinds := [], alts := [], laidByText := true, laidKinds := [.data, .data, .data, .data, .data, .pinned, .pinned, .pinned], laidTests := true, laidLooks := .later }
def ValueBackUptoCardSaid : Prop := Claim7.holds Tryz.pinned (.plain (OpenSpec.upto valueBackSpec)) valueBackUptoCard

/-- THE SECOND FORM's CARD OF 'dowserlaw07.ValueWrites'. -/
def valueWritesUptoCard : Claim7 := { stood := { row := valueWritesUptoRow, standIns := [], harness := (true, "b703ab0c3f137d0b6e1ced848bb32f8bfd7f2a908831a4453109a31aea3aa435"), looks := true }, kinds := [], alts := [], laidByText := true, laidKinds := [.data, .data, .data, .data, .data, .pinned, .pinned, .pinned], laidTests := true, laidLooks := .later }
def ValueWritesUptoCardSaid : Prop := Claim7.holds Tryz.pinned (.plain (OpenSpec.upto valueWritesSpec)) valueWritesUptoCard

/-- THE SECOND FORM's CARD OF 'dowserlaw07.ValueMakes'. -/
def valueMakesUptoCard : Claim7 := { stood := { row := valueMakesUptoRow, standIns := [], harness := (true, "b703ab0c3f137d0b6e1ced848bb32f8bfd7f2a908831a4453109a31aea3aa435"), looks := true }, kinds := [], alts := [], laidByText := true, laidKinds := [.data, .data, .data, .data, .data, .pinned, .pinned, .pinned], laidTests := true, laidLooks := .later }
def ValueMakesUptoCardSaid : Prop := Claim7.holds Tryz.pinned (.plain (OpenSpec.upto valueMakesSpec)) valueMakesUptoCard

/-- THE SECOND FORM's CARD OF 'dowserlaw07.ValueOrders'. -/
def valueOrdersUptoCard : Claim7 := { stood := { row := valueOrdersUptoRow, standIns := [], harness := (true, "b703ab0c3f137d0b6e1ced848bb32f8bfd7f2a908831a4453109a31aea3aa435"), looks := true }, kinds := [], alts := [], laidByText := true, laidKinds := [.data, .data, .data, .data, .data, .pinned, .pinned, .pinned], laidTests := true, laidLooks := .later }
def ValueOrdersUptoCardSaid : Prop := Claim7.holds Tryz.pinned (.plain (OpenSpec.upto valueOrdersSpec)) valueOrdersUptoCard

/-- THE SECOND FORM's CARD OF 'dowserlaw07.ValueCleans'. -/
def valueCleansUptoCard : Claim7 := { stood := { row := valueCleansUptoRow, standIns := [], harness := (true, "b703ab0c3f137d0b6e1ced848bb32f8bfd7f2a908831a4453109a31aea3aa435"), looks := true }, kinds := [], alts := [], laidByText := true, laidKinds := [.data, .data, .data, .data, .data, .pinned, .pinned, .pinned], laidTests := true, laidLooks := .later }
def ValueCleansUptoCardSaid : Prop := Claim7.holds Tryz.pinned (.plain (OpenSpec.upto valueCleansSpec)) valueCleansUptoCard

/-- THE SECOND FORM's CARD OF 'dowserlaw07.ValueReckons'. -/
def valueReckonsUptoCard : Claim7 := { stood := { row := valueReckonsUptoRow, standIns := [], harness := (true, "b703ab0c3f137d0b6e1ced848bb32f8bfd7f2a908831a4453109a31aea3aa435"), looks := true }, kinds := [], alts := [], laidByText := true, laidKinds := [.data, .data, .data, .data, .data, .pinned, .pinned, .pinned], laidTests := true, laidLooks := .later }
def ValueReckonsUptoCardSaid : Prop := Claim7.holds Tryz.pinned (.plain (OpenSpec.upto valueReckonsSpec)) valueReckonsUptoCard

/-- THE SECOND FORM's CARD OF 'dowserlaw07.ValueTruths'. -/
def valueTruthsUptoCard : Claim7 := { stood := { row := valueTruthsUptoRow, standIns := [], harness := (true, "b703ab0c3f137d0b6e1ced848bb32f8bfd7f2a908831a4453109a31aea3aa435"), looks := true }, kinds := [], alts := [], laidByText := true, laidKinds := [.data, .data, .data, .data, .data, .pinned, .pinned, .pinned], laidTests := true, laidLooks := .later }
def ValueTruthsUptoCardSaid : Prop := Claim7.holds Tryz.pinned (.plain (OpenSpec.upto valueTruthsSpec)) valueTruthsUptoCard

/-- THE SECOND FORM's CARD OF 'dowserlaw07.ValueRules'. -/
def valueRulesUptoCard : Claim7 := { stood := { row := valueRulesUptoRow, standIns := [], harness := (true, "b703ab0c3f137d0b6e1ced848bb32f8bfd7f2a908831a4453109a31aea3aa435"), looks := true }, kinds := [], alts := [], laidByText := true, laidKinds := [.data, .data, .data, .data, .data, .pinned, .pinned, .pinned], laidTests := true, laidLooks := .later }
def ValueRulesUptoCardSaid : Prop := Claim7.holds Tryz.pinned (.plain (OpenSpec.upto valueRulesSpec)) valueRulesUptoCard

/-- THE SECOND FORM's CARD OF 'dowserlaw07.ValueReads'. -/
def valueReadsUptoCard : Claim7 := { stood := { row := valueReadsUptoRow, standIns := [], harness := (true, "b703ab0c3f137d0b6e1ced848bb32f8bfd7f2a908831a4453109a31aea3aa435"), looks := true }, kinds := [], alts := [], laidByText := true, laidKinds := [.data, .data, .widerDeep, .widerDeep, .data, .data, .data, .data, .data, .data, .sentinel, .sentinel, .pinned, .pinned, .pinned], laidTests := true, laidLooks := .later }
def ValueReadsUptoCardSaid : Prop := Claim7.holds Tryz.pinned (.plain (OpenSpec.upto valueReadsSpec)) valueReadsUptoCard
end Rows
end Go.Proofs.YtikpgglbfpdhmaaGreatDoor
