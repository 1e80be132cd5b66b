/-
  DERIVED. GIVEN WITH THE SEED: THE CARDS: each row of YtopjkpopdffkeaaDoorRows.lean that lists a variable, with what it lists TIED to the program's text (the seventh form; the later family's looks); each row that meets fmt, with fmt's text TOLD by the authors' own Lean function (tested against real Go, not proved from fmt's source: count such statements apart). THE CARD IS WHAT COUNTS. Prove the row's statement (the work); the ties are given (YtopjkpopdffkeaaDoorTie.lean); close each card by the builder's one call (the guide's Derived/Test/ToyasCard.lean, 'card_holds'). Laid BY PROGRAM, IN A SANDBOX (cutbox-door.mjs). By AI agents, Wed Nov 11 2026. No macro, syntax, notation, axiom, sorry.
-/
import Derived.Test.YtopjkpopdffkeaaDoorRows
import GoSem.ClaimSeven
namespace Go.Proofs.YtopjkpopdffkeaaDoor
namespace Rows

/-- THE TIED CARD OF 'marllaw13.PackSummaries'. -/
def packSummariesCard : Claim7 := { stood := { row := packSummariesRow, standIns := [], harness := (true, "1abc8ca767fd85bde87caac9ba4376fc4aac2f796347e905fd3232ca75ad9dc4"), looks := false }, kinds := [], alts := [], laidByText := true, laidKinds := [.data], laidTests := true, laidLooks := .later }
def PackSummariesCardSaid : Prop := Claim7.holds Tryd.pinned (.plain (OpenSpec.ofChange packSummariesSpec)) packSummariesCard

/-- THE SECOND FORM's CARD OF 'marllaw13.PackSummaries'. -/
def packSummariesUptoCard : Claim7 := { stood := { row := packSummariesUptoRow, standIns := [], harness := (true, "1abc8ca767fd85bde87caac9ba4376fc4aac2f796347e905fd3232ca75ad9dc4"), looks := false }, kinds := [], alts := [], laidByText := true, laidKinds := [.data], laidTests := true, laidLooks := .later }
def PackSummariesUptoCardSaid : Prop := Claim7.holds Tryd.pinned (.plain (OpenSpec.upto packSummariesSpec)) packSummariesUptoCard
end Rows
end Go.Proofs.YtopjkpopdffkeaaDoor
