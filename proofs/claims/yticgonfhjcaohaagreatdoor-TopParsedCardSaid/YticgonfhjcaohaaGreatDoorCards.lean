/-
  DERIVED. GIVEN WITH THE SEED: THE CARDS: each row of YticgonfhjcaohaaGreatDoorRows.lean that lists a variable, with what it lists TIED to the program's text (the seventh form; the later family's looks); each row that meets fmt, with fmt's text TOLD by the authors' own Lean function (tested against real Go, not proved from fmt's source: count such statements apart). THE CARD IS WHAT COUNTS. Prove the row's statement (the work); the ties are given (YticgonfhjcaohaaGreatDoorTie.lean); close each card by the builder's one call (the guide's Derived/Test/ToyasCard.lean, 'card_holds'). Laid BY PROGRAM, IN A SANDBOX (cutbox-door.mjs). By AI agents, Wed Nov 11 2026. No macro, syntax, notation, axiom, sorry.
-/
import Derived.Test.YticgonfhjcaohaaGreatDoorRows
import GoSem.ClaimSeven
namespace Go.Proofs.YticgonfhjcaohaaGreatDoor
namespace Rows

/-- THE TIED CARD OF 'veilstonetop.TopParsed'. -/
def topParsedCard : Claim7 := { stood := { row := topParsedRow, standIns := [], harness := (true, "5bad77333222a19b30564944ae36f29cc4d72a2b9c21e05fdd9bba1bf0cea487"), looks := true }, kinds := [], alts := [], laidByText := true, laidKinds := [.data, .data, .data, .sentinel, .sentinel, .data, .data], laidTests := true, laidLooks := .later }
def TopParsedCardSaid : Prop := Claim7.holds Tryz.pinned (.plain (OpenSpec.ofChange topParsedSpec)) topParsedCard

/-- THE SECOND FORM's CARD OF 'veilstonetop.TopParsed'. -/
def topParsedUptoCard : Claim7 := { stood := { row := topParsedUptoRow, standIns := [], harness := (true, "5bad77333222a19b30564944ae36f29cc4d72a2b9c21e05fdd9bba1bf0cea487"), looks := true }, kinds := [], alts := [], laidByText := true, laidKinds := [.data, .data, .data, .sentinel, .sentinel, .data, .data], laidTests := true, laidLooks := .later }
def TopParsedUptoCardSaid : Prop := Claim7.holds Tryz.pinned (.plain (OpenSpec.upto topParsedSpec)) topParsedUptoCard
end Rows
end Go.Proofs.YticgonfhjcaohaaGreatDoor
