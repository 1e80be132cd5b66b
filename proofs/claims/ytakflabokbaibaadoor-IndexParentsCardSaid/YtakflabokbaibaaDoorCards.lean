/-
  DERIVED. GIVEN WITH THE SEED: THE CARDS: each row of YtakflabokbaibaaDoorRows.lean that lists a variable, with what it lists TIED to the program's text (the seventh form; the later family's looks); each row that meets fmt, with fmt's text TOLD by the authors' own Lean function (tested against real Go, not proved from fmt's source: count such statements apart). THE CARD IS WHAT COUNTS. Prove the row's statement (the work); the ties are given (YtakflabokbaibaaDoorTie.lean); close each card by the builder's one call (the guide's Derived/Test/ToyasCard.lean, 'card_holds'). Laid BY PROGRAM, IN A SANDBOX (cutbox-door.mjs). By AI agents, Wed Nov 11 2026. No macro, syntax, notation, axiom, sorry.
-/
import Derived.Test.YtakflabokbaibaaDoorRows
import GoSem.ClaimSeven
namespace Go.Proofs.YtakflabokbaibaaDoor
namespace Rows

/-- THE TIED CARD OF 'marllaw04.IndexMetas'. -/
def indexMetasCard : Claim7 := { stood := { row := indexMetasRow, standIns := [], harness := (true, "bd6771e4270bd35c1d6144bc79dd055d0753ff119697293c3711a571188b48e6"), looks := false }, kinds := [], alts := [], laidByText := true, laidKinds := [.data], laidTests := true, laidLooks := .later }
def IndexMetasCardSaid : Prop := Claim7.holds Tryd.pinned (.plain (OpenSpec.ofChange indexMetasSpec)) indexMetasCard

/-- THE TIED CARD OF 'marllaw04.IndexEvery'. -/
def indexEveryCard : Claim7 := { stood := { row := indexEveryRow, standIns := [], harness := (true, "bd6771e4270bd35c1d6144bc79dd055d0753ff119697293c3711a571188b48e6"), looks := false }, kinds := [], alts := [], laidByText := true, laidKinds := [.data], laidTests := true, laidLooks := .later }
def IndexEveryCardSaid : Prop := Claim7.holds Tryd.pinned (.plain (OpenSpec.ofChange indexEverySpec)) indexEveryCard

/-- THE TIED CARD OF 'marllaw04.IndexParents'. -/
def indexParentsCard : Claim7 := { stood := { row := indexParentsRow, standIns := [], harness := (true, "bd6771e4270bd35c1d6144bc79dd055d0753ff119697293c3711a571188b48e6"), looks := false }, kinds := [], alts := [], laidByText := true, laidKinds := [.data], laidTests := true, laidLooks := .later }
def IndexParentsCardSaid : Prop := Claim7.holds Tryd.pinned (.plain (OpenSpec.ofChange indexParentsSpec)) indexParentsCard

/-- THE TIED CARD OF 'marllaw04.IndexPaths'. -/
def indexPathsCard : Claim7 := { stood := { row := indexPathsRow, standIns := [], harness := (true, "bd6771e4270bd35c1d6144bc79dd055d0753ff119697293c3711a571188b48e6"), looks := false }, kinds := [], alts := [], laidByText := true, laidKinds := [.data], laidTests := true, laidLooks := .later }
def IndexPathsCardSaid : Prop := Claim7.holds Tryd.pinned (.plain (OpenSpec.ofChange indexPathsSpec)) indexPathsCard

/-- THE TIED CARD OF 'marllaw04.IndexOne'. -/
def indexOneCard : Claim7 := { stood := { row := indexOneRow, standIns := [], harness := (true, "bd6771e4270bd35c1d6144bc79dd055d0753ff119697293c3711a571188b48e6"), looks := false }, kinds := [], alts := [], laidByText := true, laidKinds := [.data], laidTests := true, laidLooks := .later }
def IndexOneCardSaid : Prop := Claim7.holds Tryd.pinned (.plain (OpenSpec.ofChange indexOneSpec)) indexOneCard

/-- THE TIED CARD OF 'marllaw04.IndexFalls'. -/
def indexFallsCard : Claim7 := { stood := { row := indexFallsRow, standIns := [], harness := (true, "bd6771e4270bd35c1d6144bc79dd055d0753ff119697293c3711a571188b48e6"), looks := false }, kinds := [], alts := [], laidByText := true, laidKinds := [.data], laidTests := true, laidLooks := .later }
def IndexFallsCardSaid : Prop := Claim7.holds Tryd.pinned (.plain (OpenSpec.ofChange indexFallsSpec)) indexFallsCard

/-- THE TIED CARD OF 'marllaw04.IndexAll'. -/
def indexAllCard : Claim7 := { stood := { row := indexAllRow, standIns := [], harness := (true, "bd6771e4270bd35c1d6144bc79dd055d0753ff119697293c3711a571188b48e6"), looks := false }, kinds := [], alts := [], laidByText := true, laidKinds := [.data], laidTests := true, laidLooks := .later }
def IndexAllCardSaid : Prop := Claim7.holds Tryd.pinned (.plain (OpenSpec.ofChange indexAllSpec)) indexAllCard

/-- THE SECOND FORM's CARD OF 'marllaw04.IndexMetas'. -/
def indexMetasUptoCard : Claim7 := { stood := { row := indexMetasUptoRow, standIns := [], harness := (true, "bd6771e4270bd35c1d6144bc79dd055d0753ff119697293c3711a571188b48e6"), looks := false }, kinds := [], alts := [], laidByText := true, laidKinds := [.data], laidTests := true, laidLooks := .later }
def IndexMetasUptoCardSaid : Prop := Claim7.holds Tryd.pinned (.plain (OpenSpec.upto indexMetasSpec)) indexMetasUptoCard

/-- THE SECOND FORM's CARD OF 'marllaw04.IndexEvery'. -/
def indexEveryUptoCard : Claim7 := { stood := { row := indexEveryUptoRow, standIns := [], harness := (true, "bd6771e4270bd35c1d6144bc79dd055d0753ff119697293c3711a571188b48e6"), looks := false }, kinds := [], alts := [], laidByText := true, laidKinds := [.data], laidTests := true, laidLooks := .later }
def IndexEveryUptoCardSaid : Prop := Claim7.holds Tryd.pinned (.plain (OpenSpec.upto indexEverySpec)) indexEveryUptoCard

/-- THE SECOND FORM's CARD OF 'marllaw04.IndexParents'. -/
def indexParentsUptoCard : Claim7 := { stood := { row := indexParentsUptoRow, standIns := [], harness := (true, "bd6771e4270bd35c1d6144bc79dd055d0753ff119697293c3711a571188b48e6"), looks := false }, kinds := [], alts := [], laidByText := true, laidKinds := [.data], laidTests := true, laidLooks := .later }
def IndexParentsUptoCardSaid : Prop := Claim7.holds Tryd.pinned (.plain (OpenSpec.upto indexParentsSpec)) indexParentsUptoCard

/-- THE SECOND FORM's CARD OF 'marllaw04.IndexPaths'. -/
def indexPathsUptoCard : Claim7 := { stood := { row := indexPathsUptoRow, standIns := [], harness := (true, "bd6771e4270bd35c1d6144bc79dd055d0753ff119697293c3711a571188b48e6"), looks := false }, kinds := [], alts := [], laidByText := true, laidKinds := [.data], laidTests := true, laidLooks := .later }
def IndexPathsUptoCardSaid : Prop := Claim7.holds Tryd.pinned (.plain (OpenSpec.upto indexPathsSpec)) indexPathsUptoCard

/-- THE SECOND FORM's CARD OF 'marllaw04.IndexOne'. -/
def indexOneUptoCard : Claim7 := { stood := { row := indexOneUptoRow, standIns := [], harness := (true, "bd6771e4270bd35c1d6144bc79dd055d0753ff119697293c3711a571188b48e6"), looks := false }, kinds := [], alts := [], laidByText := true, laidKinds := [.data], laidTests := true, laidLooks := .later }
def IndexOneUptoCardSaid : Prop := Claim7.holds Tryd.pinned (.plain (OpenSpec.upto indexOneSpec)) indexOneUptoCard

/-- THE SECOND FORM's CARD OF 'marllaw04.IndexFalls'. -/
def indexFallsUptoCard : Claim7 := { stood := { row := indexFallsUptoRow, standIns := [], harness := (true, "bd6771e4270bd35c1d6144bc79dd055d0753ff119697293c3711a571188b48e6"), looks := false }, kinds := [], alts := [], laidByText := true, laidKinds := [.data], laidTests := true, laidLooks := .later }
def IndexFallsUptoCardSaid : Prop := Claim7.holds Tryd.pinned (.plain (OpenSpec.upto indexFallsSpec)) indexFallsUptoCard

/-- THE SECOND FORM's CARD OF 'marllaw04.IndexAll'. -/
def indexAllUptoCard : Claim7 := { stood := { row := indexAllUptoRow, standIns := [], harness := (true, "bd6771e4270bd35c1d6144bc79dd055d0753ff119697293c3711a571188b48e6"), looks := false }, kinds := [], alts := [], laidByText := true, laidKinds := [.data], laidTests := true, laidLooks := .later }
def IndexAllUptoCardSaid : Prop := Claim7.holds Tryd.pinned (.plain (OpenSpec.upto indexAllSpec)) indexAllUptoCard
end Rows
end Go.Proofs.YtakflabokbaibaaDoor
