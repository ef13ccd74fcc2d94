/-
  DERIVED. GIVEN WITH THE SEED: THE CARDS: each row of YtlglkgineclggaaDoorRows.lean that lists a variable, with what it lists TIED to the program's text (the seventh form; the later family's looks); each row that meets fmt, with fmt's text TOLD by the authors' own Lean function (tested against real Go, not proved from fmt's source: count such statements apart). THE CARD IS WHAT COUNTS. Prove the row's statement (the work); the ties are given (YtlglkgineclggaaDoorTie.lean); close each card by the builder's one call (the guide's Derived/Test/ToyasCard.lean, 'card_holds'). Laid BY PROGRAM, IN A SANDBOX (cutbox-door.mjs). By AI agents, Wed Nov 11 2026. No macro, syntax, notation, axiom, sorry.
-/
import Derived.Test.YtlglkgineclggaaDoorRows
import GoSem.ClaimSeven
namespace Go.Proofs.YtlglkgineclggaaDoor
namespace Rows

/-- THE TIED CARD OF 'orrerylaw11.RatTells'. -/
def ratTellsCard : Claim7 := { stood := { row := ratTellsRow, standIns := [], harness := (true, "1a781a72f5ac92a37361ab2767a2df202fd6a8f07153fbf7beb7d7bfa684f29d"), looks := true }, kinds := [], alts := [], laidByText := true, laidKinds := [.data, .data, .data], laidTests := true, laidLooks := .later }
def RatTellsCardSaid : Prop := Claim7.holds Tryd.pinned (.plain (OpenSpec.ofChange ratTellsSpec)) ratTellsCard

/-- THE TIED CARD OF 'orrerylaw11.RatReads'. -/
def ratReadsCard : Claim7 := { stood := { row := ratReadsRow, standIns := [], harness := (true, "1a781a72f5ac92a37361ab2767a2df202fd6a8f07153fbf7beb7d7bfa684f29d"), looks := true }, kinds := [], alts := [], laidByText := true, laidKinds := [.data, .data, .data, .data, .sentinel, .sentinel, .pinned], laidTests := true, laidLooks := .later }
def RatReadsCardSaid : Prop := Claim7.holds Tryd.pinned (.plain (OpenSpec.ofChange ratReadsSpec)) ratReadsCard

/-- THE SECOND FORM's CARD OF 'orrerylaw11.RatTells'. -/
def ratTellsUptoCard : Claim7 := { stood := { row := ratTellsUptoRow, standIns := [], harness := (true, "1a781a72f5ac92a37361ab2767a2df202fd6a8f07153fbf7beb7d7bfa684f29d"), looks := true }, kinds := [], alts := [], laidByText := true, laidKinds := [.data, .data, .data], laidTests := true, laidLooks := .later }
def RatTellsUptoCardSaid : Prop := Claim7.holds Tryd.pinned (.plain (OpenSpec.upto ratTellsSpec)) ratTellsUptoCard

/-- THE SECOND FORM's CARD OF 'orrerylaw11.RatReads'. -/
def ratReadsUptoCard : Claim7 := { stood := { row := ratReadsUptoRow, standIns := [], harness := (true, "1a781a72f5ac92a37361ab2767a2df202fd6a8f07153fbf7beb7d7bfa684f29d"), looks := true }, kinds := [], alts := [], laidByText := true, laidKinds := [.data, .data, .data, .data, .sentinel, .sentinel, .pinned], laidTests := true, laidLooks := .later }
def RatReadsUptoCardSaid : Prop := Claim7.holds Tryd.pinned (.plain (OpenSpec.upto ratReadsSpec)) ratReadsUptoCard
end Rows
end Go.Proofs.YtlglkgineclggaaDoor
