/-
  DERIVED. GIVEN WITH THE SEED: THE CARDS: each row of YtefpfeoimgkldaaDoorRows.lean that lists a variable, with what it lists TIED to the program's text (the seventh form; the later family's looks); each row that meets fmt, with fmt's text TOLD by the authors' own Lean function (tested against real Go, not proved from fmt's source: count such statements apart). THE CARD IS WHAT COUNTS. Prove the row's statement (the work); the ties are given (YtefpfeoimgkldaaDoorTie.lean); close each card by the builder's one call (the guide's Derived/Test/ToyasCard.lean, 'card_holds'). Laid BY PROGRAM, IN A SANDBOX (cutbox-door.mjs). By AI agents, Wed Nov 11 2026. No macro, syntax, notation, axiom, sorry.
-/
import Derived.Test.YtefpfeoimgkldaaDoorRows
import GoSem.ClaimSeven
namespace Go.Proofs.YtefpfeoimgkldaaDoor
namespace Rows

/-- THE TIED CARD OF 'orrerylaw11.RatReads'. -/
def ratReadsCard : Claim7 := { stood := { row := ratReadsRow, standIns := [], harness := (true, "e2c60cc2f0964c3835db4cb3d842261c73b35549299933b932f2d6cb369c7408"), looks := true }, kinds := [], alts := [], laidByText := true, laidKinds := [.data, .data, .data, .data, .sentinel, .sentinel, .pinned], laidTests := true, laidLooks := .later }
def RatReadsCardSaid : Prop := Claim7.holds Tryd.pinned (.plain (OpenSpec.ofChange ratReadsSpec)) ratReadsCard

/-- THE SECOND FORM's CARD OF 'orrerylaw11.RatReads'. -/
def ratReadsUptoCard : Claim7 := { stood := { row := ratReadsUptoRow, standIns := [], harness := (true, "e2c60cc2f0964c3835db4cb3d842261c73b35549299933b932f2d6cb369c7408"), looks := true }, kinds := [], alts := [], laidByText := true, laidKinds := [.data, .data, .data, .data, .sentinel, .sentinel, .pinned], laidTests := true, laidLooks := .later }
def RatReadsUptoCardSaid : Prop := Claim7.holds Tryd.pinned (.plain (OpenSpec.upto ratReadsSpec)) ratReadsUptoCard
end Rows
end Go.Proofs.YtefpfeoimgkldaaDoor
