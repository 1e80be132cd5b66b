/-
  DERIVED. GIVEN WITH THE SEED: THE CARDS: each row of YtbamdibpkkponaaDoorRows.lean that lists a variable, with what it lists TIED to the program's text (the seventh form; the later family's looks); each row that meets fmt, with fmt's text TOLD by the authors' own Lean function (tested against real Go, not proved from fmt's source: count such statements apart). THE CARD IS WHAT COUNTS. Prove the row's statement (the work); the ties are given (YtbamdibpkkponaaDoorTie.lean); close each card by the builder's one call (the guide's Derived/Test/ToyasCard.lean, 'card_holds'). Laid BY PROGRAM, IN A SANDBOX (cutbox-door.mjs). By AI agents, Wed Nov 11 2026. No macro, syntax, notation, axiom, sorry.
-/
import Derived.Test.YtbamdibpkkponaaDoorRows
import GoSem.ClaimSeven
namespace Go.Proofs.YtbamdibpkkponaaDoor
namespace Rows

/-- THE TIED CARD OF 'marllaw06.SummaryWrites'. -/
def summaryWritesCard : Claim7 := { stood := { row := summaryWritesRow, standIns := [], harness := (true, "9cc2ba1c62a253066f471956d6e4e053741e0c28baf5c9914c229eecd46ade07"), looks := false }, kinds := [], alts := [], laidByText := true, laidKinds := [.data], laidTests := true, laidLooks := .later }
def SummaryWritesCardSaid : Prop := Claim7.holds Tryd.pinned (.plain (OpenSpec.ofChange summaryWritesSpec)) summaryWritesCard

/-- THE TIED CARD OF 'marllaw06.SummaryReads'. -/
def summaryReadsCard : Claim7 := { stood := { row := summaryReadsRow, standIns := [], harness := (true, "9cc2ba1c62a253066f471956d6e4e053741e0c28baf5c9914c229eecd46ade07"), looks := false }, kinds := [], alts := [], laidByText := true, laidKinds := [.data], laidTests := true, laidLooks := .later }
def SummaryReadsCardSaid : Prop := Claim7.holds Tryd.pinned (.plain (OpenSpec.ofChange summaryReadsSpec)) summaryReadsCard

/-- THE TIED CARD OF 'marllaw06.SummaryMixed'. -/
def summaryMixedCard : Claim7 := { stood := { row := summaryMixedRow, standIns := [], harness := (true, "9cc2ba1c62a253066f471956d6e4e053741e0c28baf5c9914c229eecd46ade07"), looks := false }, kinds := [], alts := [], laidByText := true, laidKinds := [.data], laidTests := true, laidLooks := .later }
def SummaryMixedCardSaid : Prop := Claim7.holds Tryd.pinned (.plain (OpenSpec.ofChange summaryMixedSpec)) summaryMixedCard

/-- THE TIED CARD OF 'marllaw06.SummaryOwn'. -/
def summaryOwnCard : Claim7 := { stood := { row := summaryOwnRow, standIns := [], harness := (true, "9cc2ba1c62a253066f471956d6e4e053741e0c28baf5c9914c229eecd46ade07"), looks := false }, kinds := [], alts := [], laidByText := true, laidKinds := [.data], laidTests := true, laidLooks := .later }
def SummaryOwnCardSaid : Prop := Claim7.holds Tryd.pinned (.plain (OpenSpec.ofChange summaryOwnSpec)) summaryOwnCard

/-- THE TIED CARD OF 'marllaw06.SummaryFits'. -/
def summaryFitsCard : Claim7 := { stood := { row := summaryFitsRow, standIns := [], harness := (true, "9cc2ba1c62a253066f471956d6e4e053741e0c28baf5c9914c229eecd46ade07"), looks := false }, kinds := [], alts := [], laidByText := true, laidKinds := [.data], laidTests := true, laidLooks := .later }
def SummaryFitsCardSaid : Prop := Claim7.holds Tryd.pinned (.plain (OpenSpec.ofChange summaryFitsSpec)) summaryFitsCard

/-- THE TIED CARD OF 'marllaw06.SummaryOne'. -/
def summaryOneCard : Claim7 := { stood := { row := summaryOneRow, standIns := [], harness := (true, "9cc2ba1c62a253066f471956d6e4e053741e0c28baf5c9914c229eecd46ade07"), looks := false }, kinds := [], alts := [], laidByText := true, laidKinds := [.data], laidTests := true, laidLooks := .later }
def SummaryOneCardSaid : Prop := Claim7.holds Tryd.pinned (.plain (OpenSpec.ofChange summaryOneSpec)) summaryOneCard

/-- THE SECOND FORM's CARD OF 'marllaw06.SummaryWrites'. -/
def summaryWritesUptoCard : Claim7 := { stood := { row := summaryWritesUptoRow, standIns := [], harness := (true, "9cc2ba1c62a253066f471956d6e4e053741e0c28baf5c9914c229eecd46ade07"), looks := false }, kinds := [], alts := [], laidByText := true, laidKinds := [.data], laidTests := true, laidLooks := .later }
def SummaryWritesUptoCardSaid : Prop := Claim7.holds Tryd.pinned (.plain (OpenSpec.upto summaryWritesSpec)) summaryWritesUptoCard

/-- THE SECOND FORM's CARD OF 'marllaw06.SummaryReads'. -/
def summaryReadsUptoCard : Claim7 := { stood := { row := summaryReadsUptoRow, standIns := [], harness := (true, "9cc2ba1c62a253066f471956d6e4e053741e0c28baf5c9914c229eecd46ade07"), looks := false }, kinds := [], alts := [], laidByText := true, laidKinds := [.data], laidTests := true, laidLooks := .later }
def SummaryReadsUptoCardSaid : Prop := Claim7.holds Tryd.pinned (.plain (OpenSpec.upto summaryReadsSpec)) summaryReadsUptoCard

/-- THE SECOND FORM's CARD OF 'marllaw06.SummaryMixed'. -/
def summaryMixedUptoCard : Claim7 := { stood := { row := summaryMixedUptoRow, standIns := [], harness := (true, "9cc2ba1c62a253066f471956d6e4e053741e0c28baf5c9914c229eecd46ade07"), looks := false }, kinds := [], alts := [], laidByText := true, laidKinds := [.data], laidTests := true, laidLooks := .later }
def SummaryMixedUptoCardSaid : Prop := Claim7.holds Tryd.pinned (.plain (OpenSpec.upto summaryMixedSpec)) summaryMixedUptoCard

/-- THE SECOND FORM's CARD OF 'marllaw06.SummaryOwn'. -/
def summaryOwnUptoCard : Claim7 := { stood := { row := summaryOwnUptoRow, standIns := [], harness := (true, "9cc2ba1c62a253066f471956d6e4e053741e0c28baf5c9914c229eecd46ade07"), looks := false }, kinds := [], alts := [], laidByText := true, laidKinds := [.data], laidTests := true, laidLooks := .later }
def SummaryOwnUptoCardSaid : Prop := Claim7.holds Tryd.pinned (.plain (OpenSpec.upto summaryOwnSpec)) summaryOwnUptoCard

/-- THE SECOND FORM's CARD OF 'marllaw06.SummaryFits'. -/
def summaryFitsUptoCard : Claim7 := { stood := { row := summaryFitsUptoRow, standIns := [], harness := (true, "9cc2ba1c62a253066f471956d6e4e053741e0c28baf5c9914c229eecd46ade07"), looks := false }, kinds := [], alts := [], laidByText := true, laidKinds := [.data], laidTests := true, laidLooks := .later }
def SummaryFitsUptoCardSaid : Prop := Claim7.holds Tryd.pinned (.plain (OpenSpec.upto summaryFitsSpec)) summaryFitsUptoCard

/-- THE SECOND FORM's CARD OF 'marllaw06.SummaryOne'. -/
def summaryOneUptoCard : Claim7 := { stood := { row := summaryOneUptoRow, standIns := [], harness := (true, "9cc2ba1c62a253066f471956d6e4e053741e0c28baf5c9914c229eecd46ade07"), looks := false }, kinds := [], alts := [], laidByText := true, laidKinds := [.data], laidTests := true, laidLooks := .later }
def SummaryOneUptoCardSaid : Prop := Claim7.holds Tryd.pinned (.plain (OpenSpec.upto summaryOneSpec)) summaryOneUptoCard
end Rows
end Go.Proofs.YtbamdibpkkponaaDoor
