/-
  DERIVED. GIVEN WITH THE SEED: THE CARDS: each row of YtkmnepmnjpdpkaaDoorRows.lean that lists a variable, with what it lists TIED to the program's text (the seventh form; the later family's looks); each row that meets fmt, with fmt's text TOLD by the authors' own Lean function (tested against real Go, not proved from fmt's source: count such statements apart). THE CARD IS WHAT COUNTS. Prove the row's statement (the work); the ties are given (YtkmnepmnjpdpkaaDoorTie.lean); close each card by the builder's one call (the guide's Derived/Test/ToyasCard.lean, 'card_holds'). Laid BY PROGRAM, IN A SANDBOX (cutbox-door.mjs). By AI agents, Wed Nov 11 2026. No macro, syntax, notation, axiom, sorry.
-/
import Derived.Test.YtkmnepmnjpdpkaaDoorRows
import GoSem.ClaimSeven
namespace Go.Proofs.YtkmnepmnjpdpkaaDoor
namespace Rows

/-- THE TIED CARD OF 'laws.FnExactParseAct'. -/
def fnExactParseActCard : Claim7 := { stood := { row := fnExactParseActRow, standIns := [], harness := (true, "e0953dc8d6903d8d4c7f0a0c70735358465245c399a12ea13b1a3887027ec25c"), looks := true }, kinds := [], alts := [], laidByText := true, laidKinds := [.data, .data, .data, .data, .sentinel, .sentinel, .widerDeep, .data, .pinned], laidTests := true, laidLooks := .later }
def FnExactParseActCardSaid : Prop := Claim7.holds Tryd.pinned (.plain (OpenSpec.ofChange fnExactParseActSpec)) fnExactParseActCard

/-- THE TIED CARD OF 'laws.FnExactActsIn'. -/
def fnExactActsInCard : Claim7 := { stood := { row := fnExactActsInRow, standIns := [], harness := (true, "e0953dc8d6903d8d4c7f0a0c70735358465245c399a12ea13b1a3887027ec25c"), looks := true }, kinds := [], alts := [], laidByText := true, laidKinds := [.data, .data, .data, .data, .sentinel, .sentinel, .widerDeep, .data, .pinned], laidTests := true, laidLooks := .later }
def FnExactActsInCardSaid : Prop := Claim7.holds Tryd.pinned (.plain (OpenSpec.ofChange fnExactActsInSpec)) fnExactActsInCard

/-- THE SECOND FORM's CARD OF 'laws.FnExactParseAct'. -/
def fnExactParseActUptoCard : Claim7 := { stood := { row := fnExactParseActUptoRow, standIns := [], harness := (true, "e0953dc8d6903d8d4c7f0a0c70735358465245c399a12ea13b1a3887027ec25c"), looks := true }, kinds := [], alts := [], laidByText := true, laidKinds := [.data, .data, .data, .data, .sentinel, .sentinel, .widerDeep, .data, .pinned], laidTests := true, laidLooks := .later }
def FnExactParseActUptoCardSaid : Prop := Claim7.holds Tryd.pinned (.plain (OpenSpec.upto fnExactParseActSpec)) fnExactParseActUptoCard

/-- THE SECOND FORM's CARD OF 'laws.FnExactActsIn'. -/
def fnExactActsInUptoCard : Claim7 := { stood := { row := fnExactActsInUptoRow, standIns := [], harness := (true, "e0953dc8d6903d8d4c7f0a0c70735358465245c399a12ea13b1a3887027ec25c"), looks := true }, kinds := [], alts := [], laidByText := true, laidKinds := [.data, .data, .data, .data, .sentinel, .sentinel, .widerDeep, .data, .pinned], laidTests := true, laidLooks := .later }
def FnExactActsInUptoCardSaid : Prop := Claim7.holds Tryd.pinned (.plain (OpenSpec.upto fnExactActsInSpec)) fnExactActsInUptoCard
end Rows
end Go.Proofs.YtkmnepmnjpdpkaaDoor
