/-
  No cell of these rows narrows 'for every input' (looked for: loops, veiled, ifaces, maps, wideKeys, modest, calm, conditions, laid).
  DERIVED. THE GIVEN ROWS OF THIS SEAT. 6 by the template 'for every input the law returns true; each argument reads behind the call as it read before'; 0 by the template 'total and deterministic' (their statements: YtfaingklglelnaaTotals.lean).
  GIVEN WITH THE SEED: the statements are not yours to turn. If you find one false, say at which input.
  Laid BY PROGRAM, IN A SANDBOX (cutbox-rows.mjs): the forced cells as the released guide's own fill.sh prints them over the translation 87618d34641a284a… (all of the seat's roots in one cut). By AI agents, Wed Nov 11 2026. No macro, syntax, notation, axiom, sorry.
-/
import Derived.Test.YtfaingklglelnaaChecked
import GoSem.Claim
import GoSem.ClaimJoined
import GoSem.ClaimMapViews
import Derived.JoinedTies
import Derived.KernelRfl
namespace Go.Proofs.Ytfaingklglelnaa
/- THE CELL 'sum', in the pinned program and in every row, IS THE sha256 OF THE DUMP (.gsa) THAT YtfaingklglelnaaProg.lean LOADS. Nothing in Lean hashes anything: it is a label: what it is worth is what the hold of that sum in a sandbox is worth. -/
noncomputable def Try.pinned : Pinned := { name := "ytfaingklglelnaa", sum := "87618d34641a284ab03440cfecaedd611398c8c921906ee0abf99e25adc2f62c", checked := Try.checked }
namespace Rows
def none {H : Type} : Left H := { results := [], args := [] }

/-- 'marllaw17.PointBlocks': WHATEVER THE INPUT: true; the input reads as it did. -/
def pointBlocksSpec : ChangeSpec := { name := "pointBlocks", fn := fun _ => fun
  | [d1, d2] => { results := [.lit (.bool true)], args := [d1, d2] }
  | _ => none }
def pointBlocksRow : OpenClaim := { program := "ytfaingklglelnaa", sum := "87618d34641a284ab03440cfecaedd611398c8c921906ee0abf99e25adc2f62c", func := "marl/marllaw17.PointBlocks", spec := "pointBlocks", unfollowed := true, recurses := true, apart := false }
def PointBlocksSaid : Prop := pointBlocksRow.holds Try.pinned (OpenSpec.ofChange pointBlocksSpec)

/-- ITS FALSE NEIGHBOUR: 'it returns false'. Refute it at one input. -/
def pointBlocksWrong : ChangeSpec := { name := "pointBlocks", fn := fun _ => fun
  | [d1, d2] => { results := [.lit (.bool false)], args := [d1, d2] }
  | _ => none }
def PointBlocksWrongFalsely : Prop := pointBlocksRow.holds Try.pinned (OpenSpec.ofChange pointBlocksWrong)

/-- 'marllaw17.PointNewer': WHATEVER THE INPUT: true; the input reads as it did. -/
def pointNewerSpec : ChangeSpec := { name := "pointNewer", fn := fun _ => fun
  | [d1, d2, d3] => { results := [.lit (.bool true)], args := [d1, d2, d3] }
  | _ => none }
def pointNewerRow : OpenClaim := { program := "ytfaingklglelnaa", sum := "87618d34641a284ab03440cfecaedd611398c8c921906ee0abf99e25adc2f62c", func := "marl/marllaw17.PointNewer", spec := "pointNewer", unfollowed := true, recurses := true, apart := false }
def PointNewerSaid : Prop := pointNewerRow.holds Try.pinned (OpenSpec.ofChange pointNewerSpec)

/-- ITS FALSE NEIGHBOUR: 'it returns false'. Refute it at one input. -/
def pointNewerWrong : ChangeSpec := { name := "pointNewer", fn := fun _ => fun
  | [d1, d2, d3] => { results := [.lit (.bool false)], args := [d1, d2, d3] }
  | _ => none }
def PointNewerWrongFalsely : Prop := pointNewerRow.holds Try.pinned (OpenSpec.ofChange pointNewerWrong)

/-- 'marllaw17.PointTurns': WHATEVER THE INPUT: true; the input reads as it did. -/
def pointTurnsSpec : ChangeSpec := { name := "pointTurns", fn := fun _ => fun
  | [d] => { results := [.lit (.bool true)], args := [d] }
  | _ => none }
def pointTurnsRow : OpenClaim := { program := "ytfaingklglelnaa", sum := "87618d34641a284ab03440cfecaedd611398c8c921906ee0abf99e25adc2f62c", func := "marl/marllaw17.PointTurns", spec := "pointTurns", unfollowed := true, recurses := true, apart := false }
def PointTurnsSaid : Prop := pointTurnsRow.holds Try.pinned (OpenSpec.ofChange pointTurnsSpec)

/-- ITS FALSE NEIGHBOUR: 'it returns false'. Refute it at one input. -/
def pointTurnsWrong : ChangeSpec := { name := "pointTurns", fn := fun _ => fun
  | [d] => { results := [.lit (.bool false)], args := [d] }
  | _ => none }
def PointTurnsWrongFalsely : Prop := pointTurnsRow.holds Try.pinned (OpenSpec.ofChange pointTurnsWrong)

/-- 'marllaw17.PointMixed': WHATEVER THE INPUT: true; the input reads as it did. -/
def pointMixedSpec : ChangeSpec := { name := "pointMixed", fn := fun _ => fun
  | [d1, d2, d3] => { results := [.lit (.bool true)], args := [d1, d2, d3] }
  | _ => none }
def pointMixedRow : OpenClaim := { program := "ytfaingklglelnaa", sum := "87618d34641a284ab03440cfecaedd611398c8c921906ee0abf99e25adc2f62c", func := "marl/marllaw17.PointMixed", spec := "pointMixed", unfollowed := true, recurses := true, apart := false }
def PointMixedSaid : Prop := pointMixedRow.holds Try.pinned (OpenSpec.ofChange pointMixedSpec)

/-- ITS FALSE NEIGHBOUR: 'it returns false'. Refute it at one input. -/
def pointMixedWrong : ChangeSpec := { name := "pointMixed", fn := fun _ => fun
  | [d1, d2, d3] => { results := [.lit (.bool false)], args := [d1, d2, d3] }
  | _ => none }
def PointMixedWrongFalsely : Prop := pointMixedRow.holds Try.pinned (OpenSpec.ofChange pointMixedWrong)

/-- 'marllaw17.PointOne': WHATEVER THE INPUT: true; the input reads as it did. -/
def pointOneSpec : ChangeSpec := { name := "pointOne", fn := fun _ => fun
  | [d1, d2, d3] => { results := [.lit (.bool true)], args := [d1, d2, d3] }
  | _ => none }
def pointOneRow : OpenClaim := { program := "ytfaingklglelnaa", sum := "87618d34641a284ab03440cfecaedd611398c8c921906ee0abf99e25adc2f62c", func := "marl/marllaw17.PointOne", spec := "pointOne", unfollowed := true, recurses := true, apart := false }
def PointOneSaid : Prop := pointOneRow.holds Try.pinned (OpenSpec.ofChange pointOneSpec)

/-- ITS FALSE NEIGHBOUR: 'it returns false'. Refute it at one input. -/
def pointOneWrong : ChangeSpec := { name := "pointOne", fn := fun _ => fun
  | [d1, d2, d3] => { results := [.lit (.bool false)], args := [d1, d2, d3] }
  | _ => none }
def PointOneWrongFalsely : Prop := pointOneRow.holds Try.pinned (OpenSpec.ofChange pointOneWrong)

/-- 'marllaw17.PointPlays': WHATEVER THE INPUT: true; the input reads as it did. -/
def pointPlaysSpec : ChangeSpec := { name := "pointPlays", fn := fun _ => fun
  | [d1, d2] => { results := [.lit (.bool true)], args := [d1, d2] }
  | _ => none }
def pointPlaysRow : OpenClaim := { program := "ytfaingklglelnaa", sum := "87618d34641a284ab03440cfecaedd611398c8c921906ee0abf99e25adc2f62c", func := "marl/marllaw17.PointPlays", spec := "pointPlays", unfollowed := true, recurses := true, apart := false }
def PointPlaysSaid : Prop := pointPlaysRow.holds Try.pinned (OpenSpec.ofChange pointPlaysSpec)

/-- ITS FALSE NEIGHBOUR: 'it returns false'. Refute it at one input. -/
def pointPlaysWrong : ChangeSpec := { name := "pointPlays", fn := fun _ => fun
  | [d1, d2] => { results := [.lit (.bool false)], args := [d1, d2] }
  | _ => none }
def PointPlaysWrongFalsely : Prop := pointPlaysRow.holds Try.pinned (OpenSpec.ofChange pointPlaysWrong)

/- THE SECOND FORM. 'bulk': how many values and letters a reading holds, each counted each time it is reached (what is shared counts as often as it is met; a slice's spare places count too). A statement '..UptoSaid' is the law's where the arguments, and the package variables that the reading takes, are together of bulk at most 1048576: NARROWER than '..Said'. Prove '..Said' where nothing that the law and all that it calls make is longer than what came in: it says more and counts as full. Else prove '..UptoSaid'. A law counts once. -/
mutual
def uptoBulk {H : Type} : DataW H → Nat
  | .lit (.string bytes) => bytes.length + 1
  | .lit _ => 1
  | .nil => 1
  | .ptr d => uptoBulk d + 1
  | .slice elems spare => uptoBulkAll elems + uptoBulkAll spare + 1
  | .agg parts => uptoBulkAll parts + 1
  | .iface _ d => uptoBulk d + 1
  | .map entries => uptoBulkEntries entries + 1
  | .held _ => 1
def uptoBulkAll {H : Type} : List (DataW H) → Nat
  | [] => 0
  | d :: r => uptoBulk d + uptoBulkAll r
def uptoBulkEntries {H : Type} : List (Lit × DataW H) → Nat
  | [] => 0
  | x :: r => uptoBulkEntry x + uptoBulkEntries r
def uptoBulkEntry {H : Type} : Lit × DataW H → Nat
  | (.string bytes, d) => bytes.length + uptoBulk d + 1
  | (_, d) => uptoBulk d + 1
 end
def uptoSmall : (H : Type) → List (DataW H) → Bool := fun _ ds => decide (uptoBulkAll ds ≤ 1048576)
def OpenSpec.upto (s : _root_.Go.ChangeSpec) : _root_.Go.OpenSpec := { _root_.Go.OpenSpec.ofChange s with cond := some uptoSmall }

/-- 'marllaw17.PointBlocks', WHERE WHAT IT READS IS OF BULK AT MOST 1048576: true; the input reads as it did. -/
def pointBlocksUptoRow : OpenClaim := { program := "ytfaingklglelnaa", sum := "87618d34641a284ab03440cfecaedd611398c8c921906ee0abf99e25adc2f62c", func := "marl/marllaw17.PointBlocks", spec := "pointBlocks", unfollowed := true, recurses := true, apart := false, narrowed := true }
def PointBlocksUptoSaid : Prop := pointBlocksUptoRow.holds Try.pinned (OpenSpec.upto pointBlocksSpec)

/-- 'marllaw17.PointNewer', WHERE WHAT IT READS IS OF BULK AT MOST 1048576: true; the input reads as it did. -/
def pointNewerUptoRow : OpenClaim := { program := "ytfaingklglelnaa", sum := "87618d34641a284ab03440cfecaedd611398c8c921906ee0abf99e25adc2f62c", func := "marl/marllaw17.PointNewer", spec := "pointNewer", unfollowed := true, recurses := true, apart := false, narrowed := true }
def PointNewerUptoSaid : Prop := pointNewerUptoRow.holds Try.pinned (OpenSpec.upto pointNewerSpec)

/-- 'marllaw17.PointTurns', WHERE WHAT IT READS IS OF BULK AT MOST 1048576: true; the input reads as it did. -/
def pointTurnsUptoRow : OpenClaim := { program := "ytfaingklglelnaa", sum := "87618d34641a284ab03440cfecaedd611398c8c921906ee0abf99e25adc2f62c", func := "marl/marllaw17.PointTurns", spec := "pointTurns", unfollowed := true, recurses := true, apart := false, narrowed := true }
def PointTurnsUptoSaid : Prop := pointTurnsUptoRow.holds Try.pinned (OpenSpec.upto pointTurnsSpec)

/-- 'marllaw17.PointMixed', WHERE WHAT IT READS IS OF BULK AT MOST 1048576: true; the input reads as it did. -/
def pointMixedUptoRow : OpenClaim := { program := "ytfaingklglelnaa", sum := "87618d34641a284ab03440cfecaedd611398c8c921906ee0abf99e25adc2f62c", func := "marl/marllaw17.PointMixed", spec := "pointMixed", unfollowed := true, recurses := true, apart := false, narrowed := true }
def PointMixedUptoSaid : Prop := pointMixedUptoRow.holds Try.pinned (OpenSpec.upto pointMixedSpec)

/-- 'marllaw17.PointOne', WHERE WHAT IT READS IS OF BULK AT MOST 1048576: true; the input reads as it did. -/
def pointOneUptoRow : OpenClaim := { program := "ytfaingklglelnaa", sum := "87618d34641a284ab03440cfecaedd611398c8c921906ee0abf99e25adc2f62c", func := "marl/marllaw17.PointOne", spec := "pointOne", unfollowed := true, recurses := true, apart := false, narrowed := true }
def PointOneUptoSaid : Prop := pointOneUptoRow.holds Try.pinned (OpenSpec.upto pointOneSpec)

/-- 'marllaw17.PointPlays', WHERE WHAT IT READS IS OF BULK AT MOST 1048576: true; the input reads as it did. -/
def pointPlaysUptoRow : OpenClaim := { program := "ytfaingklglelnaa", sum := "87618d34641a284ab03440cfecaedd611398c8c921906ee0abf99e25adc2f62c", func := "marl/marllaw17.PointPlays", spec := "pointPlays", unfollowed := true, recurses := true, apart := false, narrowed := true }
def PointPlaysUptoSaid : Prop := pointPlaysUptoRow.holds Try.pinned (OpenSpec.upto pointPlaysSpec)

end Rows
end Go.Proofs.Ytfaingklglelnaa
