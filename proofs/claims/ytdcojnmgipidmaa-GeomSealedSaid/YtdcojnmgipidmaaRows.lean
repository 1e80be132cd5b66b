/-
  No cell of these rows narrows 'for every input' (looked for: loops, veiled, ifaces, maps, wideKeys, modest, calm, conditions, laid).
  DERIVED. THE GIVEN ROWS OF THIS SEAT. 6 by the template 'for every input the law returns true; each argument reads behind the call as it read before'; 0 by the template 'total and deterministic' (their statements: YtdcojnmgipidmaaTotals.lean).
  GIVEN WITH THE SEED: the statements are not yours to turn. If you find one false, say at which input.
  Laid BY PROGRAM, IN A SANDBOX (cutbox-rows.mjs): the forced cells as the released guide's own fill.sh prints them over the translation 2d43114bb164d50c… (all of the seat's roots in one cut). By AI agents, Wed Nov 11 2026. No macro, syntax, notation, axiom, sorry.
-/
import Derived.Test.YtdcojnmgipidmaaChecked
import GoSem.Claim
import GoSem.ClaimJoined
import GoSem.ClaimMapViews
import Derived.JoinedTies
import Derived.KernelRfl
namespace Go.Proofs.Ytdcojnmgipidmaa
/- THE CELL 'sum', in the pinned program and in every row, IS THE sha256 OF THE DUMP (.gsa) THAT YtdcojnmgipidmaaProg.lean LOADS. Nothing in Lean hashes anything: it is a label: what it is worth is what the hold of that sum in a sandbox is worth. -/
noncomputable def Try.pinned : Pinned := { name := "ytdcojnmgipidmaa", sum := "2d43114bb164d50ca6584622126bf5e66f36021cea9b5588eaf3844a5cde0614", checked := Try.checked }
namespace Rows
def none {H : Type} : Left H := { results := [], args := [] }

/-- 'marllaw03.GeomPlaces': WHATEVER THE INPUT: true; the input reads as it did. -/
def geomPlacesSpec : ChangeSpec := { name := "geomPlaces", fn := fun _ => fun
  | [d1, d2, d3] => { results := [.lit (.bool true)], args := [d1, d2, d3] }
  | _ => none }
def geomPlacesRow : OpenClaim := { program := "ytdcojnmgipidmaa", sum := "2d43114bb164d50ca6584622126bf5e66f36021cea9b5588eaf3844a5cde0614", func := "marl/marllaw03.GeomPlaces", spec := "geomPlaces", apart := false }
def GeomPlacesSaid : Prop := geomPlacesRow.holds Try.pinned (OpenSpec.ofChange geomPlacesSpec)

/-- ITS FALSE NEIGHBOUR: 'it returns false'. Refute it at one input. -/
def geomPlacesWrong : ChangeSpec := { name := "geomPlaces", fn := fun _ => fun
  | [d1, d2, d3] => { results := [.lit (.bool false)], args := [d1, d2, d3] }
  | _ => none }
def GeomPlacesWrongFalsely : Prop := geomPlacesRow.holds Try.pinned (OpenSpec.ofChange geomPlacesWrong)

/-- 'marllaw03.GeomApart': WHATEVER THE INPUT: true; the input reads as it did. -/
def geomApartSpec : ChangeSpec := { name := "geomApart", fn := fun _ => fun
  | [d] => { results := [.lit (.bool true)], args := [d] }
  | _ => none }
def geomApartRow : OpenClaim := { program := "ytdcojnmgipidmaa", sum := "2d43114bb164d50ca6584622126bf5e66f36021cea9b5588eaf3844a5cde0614", func := "marl/marllaw03.GeomApart", spec := "geomApart", apart := false }
def GeomApartSaid : Prop := geomApartRow.holds Try.pinned (OpenSpec.ofChange geomApartSpec)

/-- ITS FALSE NEIGHBOUR: 'it returns false'. Refute it at one input. -/
def geomApartWrong : ChangeSpec := { name := "geomApart", fn := fun _ => fun
  | [d] => { results := [.lit (.bool false)], args := [d] }
  | _ => none }
def GeomApartWrongFalsely : Prop := geomApartRow.holds Try.pinned (OpenSpec.ofChange geomApartWrong)

/-- 'marllaw03.GeomGrows': WHATEVER THE INPUT: true; the input reads as it did. -/
def geomGrowsSpec : ChangeSpec := { name := "geomGrows", fn := fun _ => fun
  | [d1, d2] => { results := [.lit (.bool true)], args := [d1, d2] }
  | _ => none }
def geomGrowsRow : OpenClaim := { program := "ytdcojnmgipidmaa", sum := "2d43114bb164d50ca6584622126bf5e66f36021cea9b5588eaf3844a5cde0614", func := "marl/marllaw03.GeomGrows", spec := "geomGrows", apart := false }
def GeomGrowsSaid : Prop := geomGrowsRow.holds Try.pinned (OpenSpec.ofChange geomGrowsSpec)

/-- ITS FALSE NEIGHBOUR: 'it returns false'. Refute it at one input. -/
def geomGrowsWrong : ChangeSpec := { name := "geomGrows", fn := fun _ => fun
  | [d1, d2] => { results := [.lit (.bool false)], args := [d1, d2] }
  | _ => none }
def GeomGrowsWrongFalsely : Prop := geomGrowsRow.holds Try.pinned (OpenSpec.ofChange geomGrowsWrong)

/-- 'marllaw03.GeomChecks': WHATEVER THE INPUT: true; the input reads as it did. -/
def geomChecksSpec : ChangeSpec := { name := "geomChecks", fn := fun _ => fun
  | [d] => { results := [.lit (.bool true)], args := [d] }
  | _ => none }
def geomChecksRow : OpenClaim := { program := "ytdcojnmgipidmaa", sum := "2d43114bb164d50ca6584622126bf5e66f36021cea9b5588eaf3844a5cde0614", func := "marl/marllaw03.GeomChecks", spec := "geomChecks", apart := false }
def GeomChecksSaid : Prop := geomChecksRow.holds Try.pinned (OpenSpec.ofChange geomChecksSpec)

/-- ITS FALSE NEIGHBOUR: 'it returns false'. Refute it at one input. -/
def geomChecksWrong : ChangeSpec := { name := "geomChecks", fn := fun _ => fun
  | [d] => { results := [.lit (.bool false)], args := [d] }
  | _ => none }
def GeomChecksWrongFalsely : Prop := geomChecksRow.holds Try.pinned (OpenSpec.ofChange geomChecksWrong)

/-- 'marllaw03.GeomReads': WHATEVER THE INPUT: true; the input reads as it did. -/
def geomReadsSpec : ChangeSpec := { name := "geomReads", fn := fun _ => fun
  | [d] => { results := [.lit (.bool true)], args := [d] }
  | _ => none }
def geomReadsRow : OpenClaim := { program := "ytdcojnmgipidmaa", sum := "2d43114bb164d50ca6584622126bf5e66f36021cea9b5588eaf3844a5cde0614", func := "marl/marllaw03.GeomReads", spec := "geomReads", unfollowed := true, recurses := true, apart := false }
def GeomReadsSaid : Prop := geomReadsRow.holds Try.pinned (OpenSpec.ofChange geomReadsSpec)

/-- ITS FALSE NEIGHBOUR: 'it returns false'. Refute it at one input. -/
def geomReadsWrong : ChangeSpec := { name := "geomReads", fn := fun _ => fun
  | [d] => { results := [.lit (.bool false)], args := [d] }
  | _ => none }
def GeomReadsWrongFalsely : Prop := geomReadsRow.holds Try.pinned (OpenSpec.ofChange geomReadsWrong)

/-- 'marllaw03.GeomSealed': WHATEVER THE INPUT: true; the input reads as it did. -/
def geomSealedSpec : ChangeSpec := { name := "geomSealed", fn := fun _ => fun
  | [d1, d2, d3] => { results := [.lit (.bool true)], args := [d1, d2, d3] }
  | _ => none }
def geomSealedRow : OpenClaim := { program := "ytdcojnmgipidmaa", sum := "2d43114bb164d50ca6584622126bf5e66f36021cea9b5588eaf3844a5cde0614", func := "marl/marllaw03.GeomSealed", spec := "geomSealed", unfollowed := true, recurses := true, apart := false }
def GeomSealedSaid : Prop := geomSealedRow.holds Try.pinned (OpenSpec.ofChange geomSealedSpec)

/-- ITS FALSE NEIGHBOUR: 'it returns false'. Refute it at one input. -/
def geomSealedWrong : ChangeSpec := { name := "geomSealed", fn := fun _ => fun
  | [d1, d2, d3] => { results := [.lit (.bool false)], args := [d1, d2, d3] }
  | _ => none }
def GeomSealedWrongFalsely : Prop := geomSealedRow.holds Try.pinned (OpenSpec.ofChange geomSealedWrong)

/- THE SECOND FORM. 'bulk': how many values and letters a reading holds, each counted each time it is reached (what is shared counts as often as it is met; a slice's spare places count too). A statement '..UptoSaid' is the law's where the arguments, and the package variables that the reading takes, are together of bulk at most 1048576: NARROWER than '..Said'. Prove '..Said' where nothing that the law and all that it calls make is longer than what came in: it says more and counts as full. Else prove '..UptoSaid'. A law counts once. -/
mutual
def uptoBulk {H : Type} : DataW H → Nat
  | .lit (.string bytes) => bytes.length + 1
  | .lit _ => 1
  | .nil => 1
  | .ptr d => uptoBulk d + 1
  | .slice elems spare => uptoBulkAll elems + uptoBulkAll spare + 1
  | .agg parts => uptoBulkAll parts + 1
  | .iface _ d => uptoBulk d + 1
  | .map entries => uptoBulkEntries entries + 1
  | .held _ => 1
def uptoBulkAll {H : Type} : List (DataW H) → Nat
  | [] => 0
  | d :: r => uptoBulk d + uptoBulkAll r
def uptoBulkEntries {H : Type} : List (Lit × DataW H) → Nat
  | [] => 0
  | x :: r => uptoBulkEntry x + uptoBulkEntries r
def uptoBulkEntry {H : Type} : Lit × DataW H → Nat
  | (.string bytes, d) => bytes.length + uptoBulk d + 1
  | (_, d) => uptoBulk d + 1
 end
def uptoSmall : (H : Type) → List (DataW H) → Bool := fun _ ds => decide (uptoBulkAll ds ≤ 1048576)
def OpenSpec.upto (s : _root_.Go.ChangeSpec) : _root_.Go.OpenSpec := { _root_.Go.OpenSpec.ofChange s with cond := some uptoSmall }

/-- 'marllaw03.GeomPlaces', WHERE WHAT IT READS IS OF BULK AT MOST 1048576: true; the input reads as it did. -/
def geomPlacesUptoRow : OpenClaim := { program := "ytdcojnmgipidmaa", sum := "2d43114bb164d50ca6584622126bf5e66f36021cea9b5588eaf3844a5cde0614", func := "marl/marllaw03.GeomPlaces", spec := "geomPlaces", apart := false, narrowed := true }
def GeomPlacesUptoSaid : Prop := geomPlacesUptoRow.holds Try.pinned (OpenSpec.upto geomPlacesSpec)

/-- 'marllaw03.GeomApart', WHERE WHAT IT READS IS OF BULK AT MOST 1048576: true; the input reads as it did. -/
def geomApartUptoRow : OpenClaim := { program := "ytdcojnmgipidmaa", sum := "2d43114bb164d50ca6584622126bf5e66f36021cea9b5588eaf3844a5cde0614", func := "marl/marllaw03.GeomApart", spec := "geomApart", apart := false, narrowed := true }
def GeomApartUptoSaid : Prop := geomApartUptoRow.holds Try.pinned (OpenSpec.upto geomApartSpec)

/-- 'marllaw03.GeomGrows', WHERE WHAT IT READS IS OF BULK AT MOST 1048576: true; the input reads as it did. -/
def geomGrowsUptoRow : OpenClaim := { program := "ytdcojnmgipidmaa", sum := "2d43114bb164d50ca6584622126bf5e66f36021cea9b5588eaf3844a5cde0614", func := "marl/marllaw03.GeomGrows", spec := "geomGrows", apart := false, narrowed := true }
def GeomGrowsUptoSaid : Prop := geomGrowsUptoRow.holds Try.pinned (OpenSpec.upto geomGrowsSpec)

/-- 'marllaw03.GeomChecks', WHERE WHAT IT READS IS OF BULK AT MOST 1048576: true; the input reads as it did. -/
def geomChecksUptoRow : OpenClaim := { program := "ytdcojnmgipidmaa", sum := "2d43114bb164d50ca6584622126bf5e66f36021cea9b5588eaf3844a5cde0614", func := "marl/marllaw03.GeomChecks", spec := "geomChecks", apart := false, narrowed := true }
def GeomChecksUptoSaid : Prop := geomChecksUptoRow.holds Try.pinned (OpenSpec.upto geomChecksSpec)

/-- 'marllaw03.GeomReads', WHERE WHAT IT READS IS OF BULK AT MOST 1048576: true; the input reads as it did. -/
def geomReadsUptoRow : OpenClaim := { program := "ytdcojnmgipidmaa", sum := "2d43114bb164d50ca6584622126bf5e66f36021cea9b5588eaf3844a5cde0614", func := "marl/marllaw03.GeomReads", spec := "geomReads", unfollowed := true, recurses := true, apart := false, narrowed := true }
def GeomReadsUptoSaid : Prop := geomReadsUptoRow.holds Try.pinned (OpenSpec.upto geomReadsSpec)

/-- 'marllaw03.GeomSealed', WHERE WHAT IT READS IS OF BULK AT MOST 1048576: true; the input reads as it did. -/
def geomSealedUptoRow : OpenClaim := { program := "ytdcojnmgipidmaa", sum := "2d43114bb164d50ca6584622126bf5e66f36021cea9b5588eaf3844a5cde0614", func := "marl/marllaw03.GeomSealed", spec := "geomSealed", unfollowed := true, recurses := true, apart := false, narrowed := true }
def GeomSealedUptoSaid : Prop := geomSealedUptoRow.holds Try.pinned (OpenSpec.upto geomSealedSpec)

end Rows
end Go.Proofs.Ytdcojnmgipidmaa
