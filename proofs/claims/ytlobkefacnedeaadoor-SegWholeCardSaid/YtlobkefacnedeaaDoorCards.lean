/-
  DERIVED. GIVEN WITH THE SEED: THE CARDS: each row of YtlobkefacnedeaaDoorRows.lean that lists a variable, with what it lists TIED to the program's text (the seventh form; the later family's looks); each row that meets fmt, with fmt's text TOLD by the authors' own Lean function (tested against real Go, not proved from fmt's source: count such statements apart). THE CARD IS WHAT COUNTS. Prove the row's statement (the work); the ties are given (YtlobkefacnedeaaDoorTie.lean); close each card by the builder's one call (the guide's Derived/Test/ToyasCard.lean, 'card_holds'). Laid BY PROGRAM, IN A SANDBOX (cutbox-door.mjs). By AI agents, Wed Nov 11 2026. No macro, syntax, notation, axiom, sorry.
-/
import Derived.Test.YtlobkefacnedeaaDoorRows
import GoSem.ClaimSeven
namespace Go.Proofs.YtlobkefacnedeaaDoor
namespace Rows

/-- THE TIED CARD OF 'marllaw15.SegOwn'. -/
def segOwnCard : Claim7 := { stood := { row := segOwnRow, standIns := [], harness := (true, "fa21313207ed6f1ea033f7a8ac8070e2431460c05c195d4b485ec15bebbccc1b"), looks := false }, kinds := [], alts := [], laidByText := true, laidKinds := [.data], laidTests := true, laidLooks := .later }
def SegOwnCardSaid : Prop := Claim7.holds Tryd.pinned (.plain (OpenSpec.ofChange segOwnSpec)) segOwnCard

/-- THE TIED CARD OF 'marllaw15.SegWrites'. -/
def segWritesCard : Claim7 := { stood := { row := segWritesRow, standIns := [], harness := (true, "fa21313207ed6f1ea033f7a8ac8070e2431460c05c195d4b485ec15bebbccc1b"), looks := false }, kinds := [], alts := [], laidByText := true, laidKinds := [.data], laidTests := true, laidLooks := .later }
def SegWritesCardSaid : Prop := Claim7.holds Tryd.pinned (.plain (OpenSpec.ofChange segWritesSpec)) segWritesCard

/-- THE TIED CARD OF 'marllaw15.SegClears'. -/
def segClearsCard : Claim7 := { stood := { row := segClearsRow, standIns := [], harness := (true, "fa21313207ed6f1ea033f7a8ac8070e2431460c05c195d4b485ec15bebbccc1b"), looks := false }, kinds := [], alts := [], laidByText := true, laidKinds := [.data], laidTests := true, laidLooks := .later }
def SegClearsCardSaid : Prop := Claim7.holds Tryd.pinned (.plain (OpenSpec.ofChange segClearsSpec)) segClearsCard

/-- THE TIED CARD OF 'marllaw15.SegWhole'. -/
def segWholeCard : Claim7 := { stood := { row := segWholeRow, standIns := [], harness := (true, "fa21313207ed6f1ea033f7a8ac8070e2431460c05c195d4b485ec15bebbccc1b"), looks := false }, kinds := [], alts := [], laidByText := true, laidKinds := [.data], laidTests := true, laidLooks := .later }
def SegWholeCardSaid : Prop := Claim7.holds Tryd.pinned (.plain (OpenSpec.ofChange segWholeSpec)) segWholeCard

/-- THE TIED CARD OF 'marllaw15.SegRows'. -/
def segRowsCard : Claim7 := { stood := { row := segRowsRow, standIns := [], harness := (true, "fa21313207ed6f1ea033f7a8ac8070e2431460c05c195d4b485ec15bebbccc1b"), looks := false }, kinds := [], alts := [], laidByText := true, laidKinds := [.data], laidTests := true, laidLooks := .later }
def SegRowsCardSaid : Prop := Claim7.holds Tryd.pinned (.plain (OpenSpec.ofChange segRowsSpec)) segRowsCard

/-- THE TIED CARD OF 'marllaw15.SegBatches'. -/
def segBatchesCard : Claim7 := { stood := { row := segBatchesRow, standIns := [], harness := (true, "fa21313207ed6f1ea033f7a8ac8070e2431460c05c195d4b485ec15bebbccc1b"), looks := false }, kinds := [], alts := [], laidByText := true, laidKinds := [.data], laidTests := true, laidLooks := .later }
def SegBatchesCardSaid : Prop := Claim7.holds Tryd.pinned (.plain (OpenSpec.ofChange segBatchesSpec)) segBatchesCard

/-- THE SECOND FORM's CARD OF 'marllaw15.SegOwn'. -/
def segOwnUptoCard : Claim7 := { stood := { row := segOwnUptoRow, standIns := [], harness := (true, "fa21313207ed6f1ea033f7a8ac8070e2431460c05c195d4b485ec15bebbccc1b"), looks := false }, kinds := [], alts := [], laidByText := true, laidKinds := [.data], laidTests := true, laidLooks := .later }
def SegOwnUptoCardSaid : Prop := Claim7.holds Tryd.pinned (.plain (OpenSpec.upto segOwnSpec)) segOwnUptoCard

/-- THE SECOND FORM's CARD OF 'marllaw15.SegWrites'. -/
def segWritesUptoCard : Claim7 := { stood := { row := segWritesUptoRow, standIns := [], harness := (true, "fa21313207ed6f1ea033f7a8ac8070e2431460c05c195d4b485ec15bebbccc1b"), looks := false }, kinds := [], alts := [], laidByText := true, laidKinds := [.data], laidTests := true, laidLooks := .later }
def SegWritesUptoCardSaid : Prop := Claim7.holds Tryd.pinned (.plain (OpenSpec.upto segWritesSpec)) segWritesUptoCard

/-- THE SECOND FORM's CARD OF 'marllaw15.SegClears'. -/
def segClearsUptoCard : Claim7 := { stood := { row := segClearsUptoRow, standIns := [], harness := (true, "fa21313207ed6f1ea033f7a8ac8070e2431460c05c195d4b485ec15bebbccc1b"), looks := false }, kinds := [], alts := [], laidByText := true, laidKinds := [.data], laidTests := true, laidLooks := .later }
def SegClearsUptoCardSaid : Prop := Claim7.holds Tryd.pinned (.plain (OpenSpec.upto segClearsSpec)) segClearsUptoCard

/-- THE SECOND FORM's CARD OF 'marllaw15.SegWhole'. -/
def segWholeUptoCard : Claim7 := { stood := { row := segWholeUptoRow, standIns := [], harness := (true, "fa21313207ed6f1ea033f7a8ac8070e2431460c05c195d4b485ec15bebbccc1b"), looks := false }, kinds := [], alts := [], laidByText := true, laidKinds := [.data], laidTests := true, laidLooks := .later }
def SegWholeUptoCardSaid : Prop := Claim7.holds Tryd.pinned (.plain (OpenSpec.upto segWholeSpec)) segWholeUptoCard

/-- THE SECOND FORM's CARD OF 'marllaw15.SegRows'. -/
def segRowsUptoCard : Claim7 := { stood := { row := segRowsUptoRow, standIns := [], harness := (true, "fa21313207ed6f1ea033f7a8ac8070e2431460c05c195d4b485ec15bebbccc1b"), looks := false }, kinds := [], alts := [], laidByText := true, laidKinds := [.data], laidTests := true, laidLooks := .later }
def SegRowsUptoCardSaid : Prop := Claim7.holds Tryd.pinned (.plain (OpenSpec.upto segRowsSpec)) segRowsUptoCard

/-- THE SECOND FORM's CARD OF 'marllaw15.SegBatches'. -/
def segBatchesUptoCard : Claim7 := { stood := { row := segBatchesUptoRow, standIns := [], harness := (true, "fa21313207ed6f1ea033f7a8ac8070e2431460c05c195d4b485ec15bebbccc1b"), looks := false }, kinds := [], alts := [], laidByText := true, laidKinds := [.data], laidTests := true, laidLooks := .later }
def SegBatchesUptoCardSaid : Prop := Claim7.holds Tryd.pinned (.plain (OpenSpec.upto segBatchesSpec)) segBatchesUptoCard
end Rows
end Go.Proofs.YtlobkefacnedeaaDoor
