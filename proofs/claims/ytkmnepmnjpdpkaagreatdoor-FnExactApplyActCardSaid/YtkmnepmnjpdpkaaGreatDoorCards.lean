/-
  DERIVED. GIVEN WITH THE SEED: THE CARDS: each row of YtkmnepmnjpdpkaaGreatDoorRows.lean that lists a variable, with what it lists TIED to the program's text (the seventh form; the later family's looks); each row that meets fmt, with fmt's text TOLD by the authors' own Lean function (tested against real Go, not proved from fmt's source: count such statements apart). THE CARD IS WHAT COUNTS. Prove the row's statement (the work); the ties are given (YtkmnepmnjpdpkaaGreatDoorTie.lean); close each card by the builder's one call (the guide's Derived/Test/ToyasCard.lean, 'card_holds'). Laid BY PROGRAM, IN A SANDBOX (cutbox-door.mjs). By AI agents, Wed Nov 11 2026. No macro, syntax, notation, axiom, sorry.
-/
import Derived.Test.YtkmnepmnjpdpkaaGreatDoorRows
import GoSem.ClaimSeven
namespace Go.Proofs.YtkmnepmnjpdpkaaGreatDoor
namespace Rows

/-- THE TIED CARD OF 'laws.FnBufferAfter'. -/
def fnBufferAfterCard : Claim7 := { stood := { row := fnBufferAfterRow, standIns := [], harness := (true, "9e85e0f913c60b1956d2212bb7fc9ff9241e8d7f2dcf79aafd18c45c543253ff"), looks := true }, kinds := [], alts := [], laidByText := true, laidKinds := [.data, .data, .data, .data, .sentinel, .sentinel, .widerDeep, .data, .pinned], laidTests := true, laidLooks := .later }
def FnBufferAfterCardSaid : Prop := Claim7.holds Tryz.pinned (.plain (OpenSpec.ofChange fnBufferAfterSpec)) fnBufferAfterCard

/-- THE TIED CARD OF 'laws.FnRunActsLoad'. -/
def fnRunActsLoadCard : Claim7 := { stood := { row := fnRunActsLoadRow, standIns := [], harness := (true, "9e85e0f913c60b1956d2212bb7fc9ff9241e8d7f2dcf79aafd18c45c543253ff"), looks := true }, kinds := [], alts := [], laidByText := true, laidKinds := [.data, .data, .data, .data, .sentinel, .sentinel, .widerDeep, .data, .pinned], laidTests := true, laidLooks := .later }
def FnRunActsLoadCardSaid : Prop := Claim7.holds Tryz.pinned (.plain (OpenSpec.ofChange fnRunActsLoadSpec)) fnRunActsLoadCard

/-- THE TIED CARD OF 'laws.FnApplyAct'. -/
def fnApplyActCard : Claim7 := { stood := { row := fnApplyActRow, standIns := [], harness := (true, "9e85e0f913c60b1956d2212bb7fc9ff9241e8d7f2dcf79aafd18c45c543253ff"), looks := true }, kinds := [], alts := [], laidByText := true, laidKinds := [.data, .data, .data, .data], laidTests := true, laidLooks := .later }
def FnApplyActCardSaid : Prop := Claim7.holds Tryz.pinned (.plain (OpenSpec.ofChange fnApplyActSpec)) fnApplyActCard

/-- THE TIED CARD OF 'laws.FnApplyActOpen'. -/
def fnApplyActOpenCard : Claim7 := { stood := { row := fnApplyActOpenRow, standIns := [], harness := (true, "9e85e0f913c60b1956d2212bb7fc9ff9241e8d7f2dcf79aafd18c45c543253ff"), looks := true }, kinds := [], alts := [], laidByText := true, laidKinds := [.data, .data, .data, .data], laidTests := true, laidLooks := .later }
def FnApplyActOpenCardSaid : Prop := Claim7.holds Tryz.pinned (.plain (OpenSpec.ofChange fnApplyActOpenSpec)) fnApplyActOpenCard

/-- THE TIED CARD OF 'laws.FnFormatAct'. -/
def fnFormatActCard : Claim7 := { stood := { row := fnFormatActRow, standIns := [], harness := (true, "9e85e0f913c60b1956d2212bb7fc9ff9241e8d7f2dcf79aafd18c45c543253ff"), looks := true }, kinds := [], alts := [], laidByText := true, laidKinds := [.data, .data, .data, .data, .sentinel, .sentinel, .widerDeep, .data, .pinned], laidTests := true, laidLooks := .later }
def FnFormatActCardSaid : Prop := Claim7.holds Tryz.pinned (.plain (OpenSpec.ofChange fnFormatActSpec)) fnFormatActCard

/-- THE TIED CARD OF 'laws.FnParseAct'. -/
def fnParseActCard : Claim7 := { stood := { row := fnParseActRow, standIns := [], harness := (true, "9e85e0f913c60b1956d2212bb7fc9ff9241e8d7f2dcf79aafd18c45c543253ff"), looks := true }, kinds := [], alts := [], laidByText := true, laidKinds := [.data, .data, .data, .data, .sentinel, .sentinel, .widerDeep, .data, .pinned], laidTests := true, laidLooks := .later }
def FnParseActCardSaid : Prop := Claim7.holds Tryz.pinned (.plain (OpenSpec.ofChange fnParseActSpec)) fnParseActCard

/-- THE TIED CARD OF 'laws.FnActsIn'. -/
def fnActsInCard : Claim7 := { stood := { row := fnActsInRow, standIns := [], harness := (true, "9e85e0f913c60b1956d2212bb7fc9ff9241e8d7f2dcf79aafd18c45c543253ff"), looks := true }, kinds := [], alts := [], laidByText := true, laidKinds := [.data, .data, .data, .data, .sentinel, .sentinel, .widerDeep, .data, .pinned], laidTests := true, laidLooks := .later }
def FnActsInCardSaid : Prop := Claim7.holds Tryz.pinned (.plain (OpenSpec.ofChange fnActsInSpec)) fnActsInCard

/-- THE TIED CARD OF 'laws.FnRunActs'. -/
def fnRunActsCard : Claim7 := { stood := { row := fnRunActsRow, standIns := [], harness := (true, "9e85e0f913c60b1956d2212bb7fc9ff9241e8d7f2dcf79aafd18c45c543253ff"), looks := true }, kinds := [], alts := [], laidByText := true, laidKinds := [.data, .data, .data, .data, .sentinel, .sentinel, .widerDeep, .data, .pinned], laidTests := true, laidLooks := .later }
def FnRunActsCardSaid : Prop := Claim7.holds Tryz.pinned (.plain (OpenSpec.ofChange fnRunActsSpec)) fnRunActsCard

/-- THE TIED CARD OF 'laws.FnExactBufferAfter'. -/
def fnExactBufferAfterCard : Claim7 := { stood := { row := fnExactBufferAfterRow, standIns := [], harness := (true, "9e85e0f913c60b1956d2212bb7fc9ff9241e8d7f2dcf79aafd18c45c543253ff"), looks := true }, kinds := [], alts := [], laidByText := true, laidKinds := [.data, .data, .data, .data, .sentinel, .sentinel, .widerDeep, .data, .pinned], laidTests := true, laidLooks := .later }
def FnExactBufferAfterCardSaid : Prop := Claim7.holds Tryz.pinned (.plain (OpenSpec.ofChange fnExactBufferAfterSpec)) fnExactBufferAfterCard

/-- THE TIED CARD OF 'laws.FnExactApplyAct'. -/
def fnExactApplyActCard : Claim7 := { stood := { row := fnExactApplyActRow, standIns := [], harness := (true, "9e85e0f913c60b1956d2212bb7fc9ff9241e8d7f2dcf79aafd18c45c543253ff"), looks := true }, kinds := [], alts := [], laidByText := true, laidKinds := [.data, .data, .data, .data], laidTests := true, laidLooks := .later }
def FnExactApplyActCardSaid : Prop := Claim7.holds Tryz.pinned (.plain (OpenSpec.ofChange fnExactApplyActSpec)) fnExactApplyActCard

/-- THE TIED CARD OF 'laws.FnExactRunActs'. -/
def fnExactRunActsCard : Claim7 := { stood := { row := fnExactRunActsRow, standIns := [], harness := (true, "9e85e0f913c60b1956d2212bb7fc9ff9241e8d7f2dcf79aafd18c45c543253ff"), looks := true }, kinds := [], alts := [], laidByText := true, laidKinds := [.data, .data, .data, .data, .sentinel, .sentinel, .widerDeep, .data, .pinned], laidTests := true, laidLooks := .later }
def FnExactRunActsCardSaid : Prop := Claim7.holds Tryz.pinned (.plain (OpenSpec.ofChange fnExactRunActsSpec)) fnExactRunActsCard

/-- THE SECOND FORM's CARD OF 'laws.FnBufferAfter'. -/
def fnBufferAfterUptoCard : Claim7 := { stood := { row := fnBufferAfterUptoRow, standIns := [], harness := (true, "9e85e0f913c60b1956d2212bb7fc9ff9241e8d7f2dcf79aafd18c45c543253ff"), looks := true }, kinds := [], alts := [], laidByText := true, laidKinds := [.data, .data, .data, .data, .sentinel, .sentinel, .widerDeep, .data, .pinned], laidTests := true, laidLooks := .later }
def FnBufferAfterUptoCardSaid : Prop := Claim7.holds Tryz.pinned (.plain (OpenSpec.upto fnBufferAfterSpec)) fnBufferAfterUptoCard

/-- THE SECOND FORM's CARD OF 'laws.FnRunActsLoad'. -/
def fnRunActsLoadUptoCard : Claim7 := { stood := { row := fnRunActsLoadUptoRow, standIns := [], harness := (true, "9e85e0f913c60b1956d2212bb7fc9ff9241e8d7f2dcf79aafd18c45c543253ff"), looks := true }, kinds := [], alts := [], laidByText := true, laidKinds := [.data, .data, .data, .data, .sentinel, .sentinel, .widerDeep, .data, .pinned], laidTests := true, laidLooks := .later }
def FnRunActsLoadUptoCardSaid : Prop := Claim7.holds Tryz.pinned (.plain (OpenSpec.upto fnRunActsLoadSpec)) fnRunActsLoadUptoCard

/-- THE SECOND FORM's CARD OF 'laws.FnApplyAct'. -/
def fnApplyActUptoCard : Claim7 := { stood := { row := fnApplyActUptoRow, standIns := [], harness := (true, "9e85e0f913c60b1956d2212bb7fc9ff9241e8d7f2dcf79aafd18c45c543253ff"), looks := true }, kinds := [], alts := [], laidByText := true, laidKinds := [.data, .data, .data, .data], laidTests := true, laidLooks := .later }
def FnApplyActUptoCardSaid : Prop := Claim7.holds Tryz.pinned (.plain (OpenSpec.upto fnApplyActSpec)) fnApplyActUptoCard

/-- THE SECOND FORM's CARD OF 'laws.FnApplyActOpen'. -/
def fnApplyActOpenUptoCard : Claim7 := { stood := { row := fnApplyActOpenUptoRow, standIns := [], harness := (true, "9e85e0f913c60b1956d2212bb7fc9ff9241e8d7f2dcf79aafd18c45c543253ff"), looks := true }, kinds := [], alts := [], laidByText := true, laidKinds := [.data, .data, .data, .data], laidTests := true, laidLooks := .later }
def FnApplyActOpenUptoCardSaid : Prop := Claim7.holds Tryz.pinned (.plain (OpenSpec.upto fnApplyActOpenSpec)) fnApplyActOpenUptoCard

/-- THE SECOND FORM's CARD OF 'laws.FnFormatAct'. -/
def fnFormatActUptoCard : Claim7 := { stood := { row := fnFormatActUptoRow, standIns := [], harness := (true, "9e85e0f913c60b1956d2212bb7fc9ff9241e8d7f2dcf79aafd18c45c543253ff"), looks := true }, kinds := [], alts := [], laidByText := true, laidKinds := [.data, .data, .data, .data, .sentinel, .sentinel, .widerDeep, .data, .pinned], laidTests := true, laidLooks := .later }
def FnFormatActUptoCardSaid : Prop := Claim7.holds Tryz.pinned (.plain (OpenSpec.upto fnFormatActSpec)) fnFormatActUptoCard

/-- THE SECOND FORM's CARD OF 'laws.FnParseAct'. -/
def fnParseActUptoCard : Claim7 := { stood := { row := fnParseActUptoRow, standIns := [], harness := (true, "9e85e0f913c60b1956d2212bb7fc9ff9241e8d7f2dcf79aafd18c45c543253ff"), looks := true }, kinds := [], alts := [], laidByText := true, laidKinds := [.data, .data, .data, .data, .sentinel, .sentinel, .widerDeep, .data, .pinned], laidTests := true, laidLooks := .later }
def FnParseActUptoCardSaid : Prop := Claim7.holds Tryz.pinned (.plain (OpenSpec.upto fnParseActSpec)) fnParseActUptoCard

/-- THE SECOND FORM's CARD OF 'laws.FnActsIn'. -/
def fnActsInUptoCard : Claim7 := { stood := { row := fnActsInUptoRow, standIns := [], harness := (true, "9e85e0f913c60b1956d2212bb7fc9ff9241e8d7f2dcf79aafd18c45c543253ff"), looks := true }, kinds := [], alts := [], laidByText := true, laidKinds := [.data, .data, .data, .data, .sentinel, .sentinel, .widerDeep, .data, .pinned], laidTests := true, laidLooks := .later }
def FnActsInUptoCardSaid : Prop := Claim7.holds Tryz.pinned (.plain (OpenSpec.upto fnActsInSpec)) fnActsInUptoCard

/-- THE SECOND FORM's CARD OF 'laws.FnRunActs'. -/
def fnRunActsUptoCard : Claim7 := { stood := { row := fnRunActsUptoRow, standIns := [], harness := (true, "9e85e0f913c60b1956d2212bb7fc9ff9241e8d7f2dcf79aafd18c45c543253ff"), looks := true }, kinds := [], alts := [], laidByText := true, laidKinds := [.data, .data, .data, .data, .sentinel, .sentinel, .widerDeep, .data, .pinned], laidTests := true, laidLooks := .later }
def FnRunActsUptoCardSaid : Prop := Claim7.holds Tryz.pinned (.plain (OpenSpec.upto fnRunActsSpec)) fnRunActsUptoCard

/-- THE SECOND FORM's CARD OF 'laws.FnExactBufferAfter'. -/
def fnExactBufferAfterUptoCard : Claim7 := { stood := { row := fnExactBufferAfterUptoRow, standIns := [], harness := (true, "9e85e0f913c60b1956d2212bb7fc9ff9241e8d7f2dcf79aafd18c45c543253ff"), looks := true }, kinds := [], alts := [], laidByText := true, laidKinds := [.data, .data, .data, .data, .sentinel, .sentinel, .widerDeep, .data, .pinned], laidTests := true, laidLooks := .later }
def FnExactBufferAfterUptoCardSaid : Prop := Claim7.holds Tryz.pinned (.plain (OpenSpec.upto fnExactBufferAfterSpec)) fnExactBufferAfterUptoCard

/-- THE SECOND FORM's CARD OF 'laws.FnExactApplyAct'. -/
def fnExactApplyActUptoCard : Claim7 := { stood := { row := fnExactApplyActUptoRow, standIns := [], harness := (true, "9e85e0f913c60b1956d2212bb7fc9ff9241e8d7f2dcf79aafd18c45c543253ff"), looks := true }, kinds := [], alts := [], laidByText := true, laidKinds := [.data, .data, .data, .data], laidTests := true, laidLooks := .later }
def FnExactApplyActUptoCardSaid : Prop := Claim7.holds Tryz.pinned (.plain (OpenSpec.upto fnExactApplyActSpec)) fnExactApplyActUptoCard

/-- THE SECOND FORM's CARD OF 'laws.FnExactRunActs'. -/
def fnExactRunActsUptoCard : Claim7 := { stood := { row := fnExactRunActsUptoRow, standIns := [], harness := (true, "9e85e0f913c60b1956d2212bb7fc9ff9241e8d7f2dcf79aafd18c45c543253ff"), looks := true }, kinds := [], alts := [], laidByText := true, laidKinds := [.data, .data, .data, .data, .sentinel, .sentinel, .widerDeep, .data, .pinned], laidTests := true, laidLooks := .later }
def FnExactRunActsUptoCardSaid : Prop := Claim7.holds Tryz.pinned (.plain (OpenSpec.upto fnExactRunActsSpec)) fnExactRunActsUptoCard
end Rows
end Go.Proofs.YtkmnepmnjpdpkaaGreatDoor
