/-
  No cell of these rows narrows 'for every input' (looked for: loops, veiled, ifaces, maps, wideKeys, modest, calm, conditions, laid).
  DERIVED. THE GIVEN ROWS OF THIS SEAT. 4 by the template 'for every input the law returns true; each argument reads behind the call as it read before'; 0 by the template 'total and deterministic' (their statements: YtbmblofhogihdaaTotals.lean).
  GIVEN WITH THE SEED: the statements are not yours to turn. If you find one false, say at which input.
  Laid BY PROGRAM, IN A SANDBOX (cutbox-rows.mjs): the forced cells as the released guide's own fill.sh prints them over the translation 3a423647a059af2f… (all of the seat's roots in one cut). By AI agents, Wed Nov 11 2026. No macro, syntax, notation, axiom, sorry.
-/
import Derived.Test.YtbmblofhogihdaaChecked
import GoSem.Claim
import GoSem.ClaimJoined
import GoSem.ClaimMapViews
import Derived.JoinedTies
import Derived.KernelRfl
namespace Go.Proofs.Ytbmblofhogihdaa
/- THE CELL 'sum', in the pinned program and in every row, IS THE sha256 OF THE DUMP (.gsa) THAT YtbmblofhogihdaaProg.lean LOADS. Nothing in Lean hashes anything: it is a label: what it is worth is what the hold of that sum in a sandbox is worth. -/
noncomputable def Try.pinned : Pinned := { name := "ytbmblofhogihdaa", sum := "3a423647a059af2f54abefd445538f34f9b15d974f58c9f4b2512631b2b8f339", checked := Try.checked }
namespace Rows
def none {H : Type} : Left H := { results := [], args := [] }

/-- 'marllaw11.ImapFull': WHATEVER THE INPUT: true; the input reads as it did. -/
def imapFullSpec : ChangeSpec := { name := "imapFull", fn := fun _ => fun
  | [d1, d2] => { results := [.lit (.bool true)], args := [d1, d2] }
  | _ => none }
def imapFullRow : OpenClaim := { program := "ytbmblofhogihdaa", sum := "3a423647a059af2f54abefd445538f34f9b15d974f58c9f4b2512631b2b8f339", func := "marl/marllaw11.ImapFull", spec := "imapFull", unfollowed := true, recurses := true, apart := false }
def ImapFullSaid : Prop := imapFullRow.holds Try.pinned (OpenSpec.ofChange imapFullSpec)

/-- ITS FALSE NEIGHBOUR: 'it returns false'. Refute it at one input. -/
def imapFullWrong : ChangeSpec := { name := "imapFull", fn := fun _ => fun
  | [d1, d2] => { results := [.lit (.bool false)], args := [d1, d2] }
  | _ => none }
def ImapFullWrongFalsely : Prop := imapFullRow.holds Try.pinned (OpenSpec.ofChange imapFullWrong)

/-- 'marllaw11.ImapLast': WHATEVER THE INPUT: true; the input reads as it did. -/
def imapLastSpec : ChangeSpec := { name := "imapLast", fn := fun _ => fun
  | [d1, d2, d3] => { results := [.lit (.bool true)], args := [d1, d2, d3] }
  | _ => none }
def imapLastRow : OpenClaim := { program := "ytbmblofhogihdaa", sum := "3a423647a059af2f54abefd445538f34f9b15d974f58c9f4b2512631b2b8f339", func := "marl/marllaw11.ImapLast", spec := "imapLast", unfollowed := true, recurses := true, apart := false }
def ImapLastSaid : Prop := imapLastRow.holds Try.pinned (OpenSpec.ofChange imapLastSpec)

/-- ITS FALSE NEIGHBOUR: 'it returns false'. Refute it at one input. -/
def imapLastWrong : ChangeSpec := { name := "imapLast", fn := fun _ => fun
  | [d1, d2, d3] => { results := [.lit (.bool false)], args := [d1, d2, d3] }
  | _ => none }
def ImapLastWrongFalsely : Prop := imapLastRow.holds Try.pinned (OpenSpec.ofChange imapLastWrong)

/-- 'marllaw11.ImapVersions': WHATEVER THE INPUT: true; the input reads as it did. -/
def imapVersionsSpec : ChangeSpec := { name := "imapVersions", fn := fun _ => fun
  | [d1, d2] => { results := [.lit (.bool true)], args := [d1, d2] }
  | _ => none }
def imapVersionsRow : OpenClaim := { program := "ytbmblofhogihdaa", sum := "3a423647a059af2f54abefd445538f34f9b15d974f58c9f4b2512631b2b8f339", func := "marl/marllaw11.ImapVersions", spec := "imapVersions", unfollowed := true, recurses := true, apart := false }
def ImapVersionsSaid : Prop := imapVersionsRow.holds Try.pinned (OpenSpec.ofChange imapVersionsSpec)

/-- ITS FALSE NEIGHBOUR: 'it returns false'. Refute it at one input. -/
def imapVersionsWrong : ChangeSpec := { name := "imapVersions", fn := fun _ => fun
  | [d1, d2] => { results := [.lit (.bool false)], args := [d1, d2] }
  | _ => none }
def ImapVersionsWrongFalsely : Prop := imapVersionsRow.holds Try.pinned (OpenSpec.ofChange imapVersionsWrong)

/-- 'marllaw11.ImapLoads': WHATEVER THE INPUT: true; the input reads as it did. -/
def imapLoadsSpec : ChangeSpec := { name := "imapLoads", fn := fun _ => fun
  | [d1, d2] => { results := [.lit (.bool true)], args := [d1, d2] }
  | _ => none }
def imapLoadsRow : OpenClaim := { program := "ytbmblofhogihdaa", sum := "3a423647a059af2f54abefd445538f34f9b15d974f58c9f4b2512631b2b8f339", func := "marl/marllaw11.ImapLoads", spec := "imapLoads", unfollowed := true, recurses := true, apart := false }
def ImapLoadsSaid : Prop := imapLoadsRow.holds Try.pinned (OpenSpec.ofChange imapLoadsSpec)

/-- ITS FALSE NEIGHBOUR: 'it returns false'. Refute it at one input. -/
def imapLoadsWrong : ChangeSpec := { name := "imapLoads", fn := fun _ => fun
  | [d1, d2] => { results := [.lit (.bool false)], args := [d1, d2] }
  | _ => none }
def ImapLoadsWrongFalsely : Prop := imapLoadsRow.holds Try.pinned (OpenSpec.ofChange imapLoadsWrong)

/- THE SECOND FORM. 'bulk': how many values and letters a reading holds, each counted each time it is reached (what is shared counts as often as it is met; a slice's spare places count too). A statement '..UptoSaid' is the law's where the arguments, and the package variables that the reading takes, are together of bulk at most 1048576: NARROWER than '..Said'. Prove '..Said' where nothing that the law and all that it calls make is longer than what came in: it says more and counts as full. Else prove '..UptoSaid'. A law counts once. -/
mutual
def uptoBulk {H : Type} : DataW H → Nat
  | .lit (.string bytes) => bytes.length + 1
  | .lit _ => 1
  | .nil => 1
  | .ptr d => uptoBulk d + 1
  | .slice elems spare => uptoBulkAll elems + uptoBulkAll spare + 1
  | .agg parts => uptoBulkAll parts + 1
  | .iface _ d => uptoBulk d + 1
  | .map entries => uptoBulkEntries entries + 1
  | .held _ => 1
def uptoBulkAll {H : Type} : List (DataW H) → Nat
  | [] => 0
  | d :: r => uptoBulk d + uptoBulkAll r
def uptoBulkEntries {H : Type} : List (Lit × DataW H) → Nat
  | [] => 0
  | x :: r => uptoBulkEntry x + uptoBulkEntries r
def uptoBulkEntry {H : Type} : Lit × DataW H → Nat
  | (.string bytes, d) => bytes.length + uptoBulk d + 1
  | (_, d) => uptoBulk d + 1
 end
def uptoSmall : (H : Type) → List (DataW H) → Bool := fun _ ds => decide (uptoBulkAll ds ≤ 1048576)
def OpenSpec.upto (s : _root_.Go.ChangeSpec) : _root_.Go.OpenSpec := { _root_.Go.OpenSpec.ofChange s with cond := some uptoSmall }

/-- 'marllaw11.ImapFull', WHERE WHAT IT READS IS OF BULK AT MOST 1048576: true; the input reads as it did. -/
def imapFullUptoRow : OpenClaim := { program := "ytbmblofhogihdaa", sum := "3a423647a059af2f54abefd445538f34f9b15d974f58c9f4b2512631b2b8f339", func := "marl/marllaw11.ImapFull", spec := "imapFull", unfollowed := true, recurses := true, apart := false, narrowed := true }
def ImapFullUptoSaid : Prop := imapFullUptoRow.holds Try.pinned (OpenSpec.upto imapFullSpec)

/-- 'marllaw11.ImapLast', WHERE WHAT IT READS IS OF BULK AT MOST 1048576: true; the input reads as it did. -/
def imapLastUptoRow : OpenClaim := { program := "ytbmblofhogihdaa", sum := "3a423647a059af2f54abefd445538f34f9b15d974f58c9f4b2512631b2b8f339", func := "marl/marllaw11.ImapLast", spec := "imapLast", unfollowed := true, recurses := true, apart := false, narrowed := true }
def ImapLastUptoSaid : Prop := imapLastUptoRow.holds Try.pinned (OpenSpec.upto imapLastSpec)

/-- 'marllaw11.ImapVersions', WHERE WHAT IT READS IS OF BULK AT MOST 1048576: true; the input reads as it did. -/
def imapVersionsUptoRow : OpenClaim := { program := "ytbmblofhogihdaa", sum := "3a423647a059af2f54abefd445538f34f9b15d974f58c9f4b2512631b2b8f339", func := "marl/marllaw11.ImapVersions", spec := "imapVersions", unfollowed := true, recurses := true, apart := false, narrowed := true }
def ImapVersionsUptoSaid : Prop := imapVersionsUptoRow.holds Try.pinned (OpenSpec.upto imapVersionsSpec)

/-- 'marllaw11.ImapLoads', WHERE WHAT IT READS IS OF BULK AT MOST 1048576: true; the input reads as it did. -/
def imapLoadsUptoRow : OpenClaim := { program := "ytbmblofhogihdaa", sum := "3a423647a059af2f54abefd445538f34f9b15d974f58c9f4b2512631b2b8f339", func := "marl/marllaw11.ImapLoads", spec := "imapLoads", unfollowed := true, recurses := true, apart := false, narrowed := true }
def ImapLoadsUptoSaid : Prop := imapLoadsUptoRow.holds Try.pinned (OpenSpec.upto imapLoadsSpec)

end Rows
end Go.Proofs.Ytbmblofhogihdaa
