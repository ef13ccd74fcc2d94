/-
  DERIVED. GIVEN WITH THE SEED: THE CARDS: each row of YtffglpibobogcaaGreatDoorRows.lean that lists a variable, with what it lists TIED to the program's text (the seventh form; the later family's looks); each row that meets fmt, with fmt's text TOLD by the authors' own Lean function (tested against real Go, not proved from fmt's source: count such statements apart). THE CARD IS WHAT COUNTS. Prove the row's statement (the work); the ties are given (YtffglpibobogcaaGreatDoorTie.lean); close each card by the builder's one call (the guide's Derived/Test/ToyasCard.lean, 'card_holds'). Laid BY PROGRAM, IN A SANDBOX (cutbox-door.mjs). By AI agents, Wed Nov 11 2026. No macro, syntax, notation, axiom, sorry.
-/
import Derived.Test.YtffglpibobogcaaGreatDoorRows
import GoSem.ClaimSeven
namespace Go.Proofs.YtffglpibobogcaaGreatDoor
namespace Rows

/-- THE TIED CARD OF 'orrerylaw14.UnitNames'. -/
def unitNamesCard : Claim7 := { stood := { row := unitNamesRow, standIns := [], harness := (true, "1746df5e2e185526f778bad2b0f39ab2f91d4821ef2ea3310013cbbba44b7fb7"), looks := true }, kinds := [], alts := [], laidByText := true, laidKinds := [.data, .data, .data, .data, .sentinel, .sentinel, .listed, .data, .pinned], laidTests := true, laidLooks := .later }
def UnitNamesCardSaid : Prop := Claim7.holds Tryz.pinned (.plain (OpenSpec.ofChange unitNamesSpec)) unitNamesCard

/-- THE TIED CARD OF 'orrerylaw15.CheckAnswers'. -/
def checkAnswersCard : Claim7 := { stood := { row := checkAnswersRow, standIns := [], harness := (true, "1746df5e2e185526f778bad2b0f39ab2f91d4821ef2ea3310013cbbba44b7fb7"), looks := true }, kinds := [], alts := [], laidByText := true, laidKinds := [.data, .data, .data, .data, .sentinel, .sentinel, .listed, .data, .pinned], laidTests := true, laidLooks := .later }
def CheckAnswersCardSaid : Prop := Claim7.holds Tryz.pinned (.plain (OpenSpec.ofChange checkAnswersSpec)) checkAnswersCard

/-- THE TIED CARD OF 'orrerylaw15.CheckMore'. -/
def checkMoreCard : Claim7 := { stood := { row := checkMoreRow, standIns := [], harness := (true, "1746df5e2e185526f778bad2b0f39ab2f91d4821ef2ea3310013cbbba44b7fb7"), looks := true }, kinds := [], alts := [], laidByText := true, laidKinds := [.data, .data, .data, .data, .sentinel, .sentinel, .listed, .data, .pinned], laidTests := true, laidLooks := .later }
def CheckMoreCardSaid : Prop := Claim7.holds Tryz.pinned (.plain (OpenSpec.ofChange checkMoreSpec)) checkMoreCard

/-- THE TIED CARD OF 'orrerylaw15.CheckOrder'. -/
def checkOrderCard : Claim7 := { stood := { row := checkOrderRow, standIns := [], harness := (true, "1746df5e2e185526f778bad2b0f39ab2f91d4821ef2ea3310013cbbba44b7fb7"), looks := true }, kinds := [], alts := [], laidByText := true, laidKinds := [.data, .data, .data, .data, .sentinel, .sentinel, .listed, .data, .pinned], laidTests := true, laidLooks := .later }
def CheckOrderCardSaid : Prop := Claim7.holds Tryz.pinned (.plain (OpenSpec.ofChange checkOrderSpec)) checkOrderCard

/-- THE SECOND FORM's CARD OF 'orrerylaw14.UnitNames'. -/
def unitNamesUptoCard : Claim7 := { stood := { row := unitNamesUptoRow, standIns := [], harness := (true, "1746df5e2e185526f778bad2b0f39ab2f91d4821ef2ea3310013cbbba44b7fb7"), looks := true }, kinds := [], alts := [], laidByText := true, laidKinds := [.data, .data, .data, .data, .sentinel, .sentinel, .listed, .data, .pinned], laidTests := true, laidLooks := .later }
def UnitNamesUptoCardSaid : Prop := Claim7.holds Tryz.pinned (.plain (OpenSpec.upto unitNamesSpec)) unitNamesUptoCard

/-- THE SECOND FORM's CARD OF 'orrerylaw15.CheckAnswers'. -/
def checkAnswersUptoCard : Claim7 := { stood := { row := checkAnswersUptoRow, standIns := [], harness := (true, "1746df5e2e185526f778bad2b0f39ab2f91d4821ef2ea3310013cbbba44b7fb7"), looks := true }, kinds := [], alts := [], laidByText := true, laidKinds := [.data, .data, .data, .data, .sentinel, .sentinel, .listed, .data, .pinned], laidTests := true, laidLooks := .later }
def CheckAnswersUptoCardSaid : Prop := Claim7.holds Tryz.pinned (.plain (OpenSpec.upto checkAnswersSpec)) checkAnswersUptoCard

/-- THE SECOND FORM's CARD OF 'orrerylaw15.CheckMore'. -/
def checkMoreUptoCard : Claim7 := { stood := { row := checkMoreUptoRow, standIns := [], harness := (true, "1746df5e2e185526f778bad2b0f39ab2f91d4821ef2ea3310013cbbba44b7fb7"), looks := true }, kinds := [], alts := [], laidByText := true, laidKinds := [.data, .data, .data, .data, .sentinel, .sentinel, .listed, .data, .pinned], laidTests := true, laidLooks := .later }
def CheckMoreUptoCardSaid : Prop := Claim7.holds Tryz.pinned (.plain (OpenSpec.upto checkMoreSpec)) checkMoreUptoCard

/-- THE SECOND FORM's CARD OF 'orrerylaw15.CheckOrder'. -/
def checkOrderUptoCard : Claim7 := { stood := { row := checkOrderUptoRow, standIns := [], harness := (true, "1746df5e2e185526f778bad2b0f39ab2f91d4821ef2ea3310013cbbba44b7fb7"), looks := true }, kinds := [], alts := [], laidByText := true, laidKinds := [.data, .data, .data, .data, .sentinel, .sentinel, .listed, .data, .pinned], laidTests := true, laidLooks := .later }
def CheckOrderUptoCardSaid : Prop := Claim7.holds Tryz.pinned (.plain (OpenSpec.upto checkOrderSpec)) checkOrderUptoCard
end Rows
end Go.Proofs.YtffglpibobogcaaGreatDoor
