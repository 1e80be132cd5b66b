/-
  NARROWER THAN 'FOR EVERY INPUT', by the rows' own cells (each row's printed sentence says how): IndexMetas: laid · IndexEvery: laid · IndexParents: laid · IndexPaths: laid · IndexOne: laid · IndexFalls: laid · IndexAll: laid.
  DERIVED. THE GIVEN ROWS OF THIS SEAT. 7 by the template 'for every input the law returns true; each argument reads behind the call as it read before'; 0 by the template 'total and deterministic' (their statements: YtakflabokbaibaaDoorTotals.lean).
  GIVEN WITH THE SEED: the statements are not yours to turn. If you find one false, say at which input.
  Laid BY PROGRAM, IN A SANDBOX (cutbox-rows.mjs): the forced cells as the released guide's own fill.sh prints them over the translation 67d0e99cc6829e5d… (all of the seat's roots in one cut). By AI agents, Wed Nov 11 2026. No macro, syntax, notation, axiom, sorry.
-/
import Derived.Test.YtakflabokbaibaaDoorChecked
import GoSem.Claim
import GoSem.ClaimJoined
import GoSem.ClaimMapViews
import Derived.JoinedTies
import Derived.KernelRfl
namespace Go.Proofs.YtakflabokbaibaaDoor
/- THE CELL 'sum', in the pinned program and in every row, IS THE sha256 OF THE DUMP (.gsa) THAT YtakflabokbaibaaDoorProg.lean LOADS. Nothing in Lean hashes anything: it is a label: what it is worth is what the hold of that sum in a sandbox is worth. -/
noncomputable def Tryd.pinned : Pinned := { name := "ytakflabokbaibaadoor", sum := "67d0e99cc6829e5d7476d014c7e18693a9136a9e5f4e65b936c9e68b4a41e82c", checked := Tryd.checked }
namespace Rows
def none {H : Type} : Left H := { results := [], args := [] }

/- WHAT THE LISTED PACKAGE-LEVEL VARIABLES READ AS WHEN THE CALL BEGINS. Each datum BY PROGRAM (the guide's laid-datum.mjs) off the statement by which the dump's own 'gosem.cut.vars' lays the variable. In a bare row this is a premise. The card (YtakflabokbaibaaDoorCards.lean) ties it to the program's text. -/
def laid_marl_index_span {H : Type} : DataW H := .agg [.lit (.int .i64 0), .lit (.int .i64 6), .lit (.int .i64 22), .lit (.int .i64 278), .lit (.int .i64 1073741824)]

/-- 'marllaw04.IndexMetas': WHATEVER THE INPUT: true; the input reads as it did. -/
def indexMetasSpec : ChangeSpec := { name := "indexMetas", fn := fun _ => fun
  | [d1, d2] => { results := [.lit (.bool true)], args := [d1, d2] }
  | _ => none }
def indexMetasRow : OpenClaim := { program := "ytakflabokbaibaadoor", sum := "67d0e99cc6829e5d7476d014c7e18693a9136a9e5f4e65b936c9e68b4a41e82c", func := "marl/marllaw04.IndexMetas", spec := "indexMetas", recurses := true, named := ["marl/index.span"], apart := false, laid := [("marl/index.span", laid_marl_index_span)] }
def IndexMetasSaid : Prop := indexMetasRow.holds Tryd.pinned (OpenSpec.ofChange indexMetasSpec)

/-- ITS FALSE NEIGHBOUR: 'it returns false'. Refute it at one input. -/
def indexMetasWrong : ChangeSpec := { name := "indexMetas", fn := fun _ => fun
  | [d1, d2] => { results := [.lit (.bool false)], args := [d1, d2] }
  | _ => none }
def IndexMetasWrongFalsely : Prop := indexMetasRow.holds Tryd.pinned (OpenSpec.ofChange indexMetasWrong)

/-- 'marllaw04.IndexEvery': WHATEVER THE INPUT: true; the input reads as it did. -/
def indexEverySpec : ChangeSpec := { name := "indexEvery", fn := fun _ => fun
  | [d1, d2] => { results := [.lit (.bool true)], args := [d1, d2] }
  | _ => none }
def indexEveryRow : OpenClaim := { program := "ytakflabokbaibaadoor", sum := "67d0e99cc6829e5d7476d014c7e18693a9136a9e5f4e65b936c9e68b4a41e82c", func := "marl/marllaw04.IndexEvery", spec := "indexEvery", named := ["marl/index.span"], apart := false, laid := [("marl/index.span", laid_marl_index_span)] }
def IndexEverySaid : Prop := indexEveryRow.holds Tryd.pinned (OpenSpec.ofChange indexEverySpec)

/-- ITS FALSE NEIGHBOUR: 'it returns false'. Refute it at one input. -/
def indexEveryWrong : ChangeSpec := { name := "indexEvery", fn := fun _ => fun
  | [d1, d2] => { results := [.lit (.bool false)], args := [d1, d2] }
  | _ => none }
def IndexEveryWrongFalsely : Prop := indexEveryRow.holds Tryd.pinned (OpenSpec.ofChange indexEveryWrong)

/-- 'marllaw04.IndexParents': WHATEVER THE INPUT: true; the input reads as it did. -/
def indexParentsSpec : ChangeSpec := { name := "indexParents", fn := fun _ => fun
  | [d] => { results := [.lit (.bool true)], args := [d] }
  | _ => none }
def indexParentsRow : OpenClaim := { program := "ytakflabokbaibaadoor", sum := "67d0e99cc6829e5d7476d014c7e18693a9136a9e5f4e65b936c9e68b4a41e82c", func := "marl/marllaw04.IndexParents", spec := "indexParents", recurses := true, named := ["marl/index.span"], apart := false, laid := [("marl/index.span", laid_marl_index_span)] }
def IndexParentsSaid : Prop := indexParentsRow.holds Tryd.pinned (OpenSpec.ofChange indexParentsSpec)

/-- ITS FALSE NEIGHBOUR: 'it returns false'. Refute it at one input. -/
def indexParentsWrong : ChangeSpec := { name := "indexParents", fn := fun _ => fun
  | [d] => { results := [.lit (.bool false)], args := [d] }
  | _ => none }
def IndexParentsWrongFalsely : Prop := indexParentsRow.holds Tryd.pinned (OpenSpec.ofChange indexParentsWrong)

/-- 'marllaw04.IndexPaths': WHATEVER THE INPUT: true; the input reads as it did. -/
def indexPathsSpec : ChangeSpec := { name := "indexPaths", fn := fun _ => fun
  | [d] => { results := [.lit (.bool true)], args := [d] }
  | _ => none }
def indexPathsRow : OpenClaim := { program := "ytakflabokbaibaadoor", sum := "67d0e99cc6829e5d7476d014c7e18693a9136a9e5f4e65b936c9e68b4a41e82c", func := "marl/marllaw04.IndexPaths", spec := "indexPaths", recurses := true, named := ["marl/index.span"], apart := false, laid := [("marl/index.span", laid_marl_index_span)] }
def IndexPathsSaid : Prop := indexPathsRow.holds Tryd.pinned (OpenSpec.ofChange indexPathsSpec)

/-- ITS FALSE NEIGHBOUR: 'it returns false'. Refute it at one input. -/
def indexPathsWrong : ChangeSpec := { name := "indexPaths", fn := fun _ => fun
  | [d] => { results := [.lit (.bool false)], args := [d] }
  | _ => none }
def IndexPathsWrongFalsely : Prop := indexPathsRow.holds Tryd.pinned (OpenSpec.ofChange indexPathsWrong)

/-- 'marllaw04.IndexOne': WHATEVER THE INPUT: true; the input reads as it did. -/
def indexOneSpec : ChangeSpec := { name := "indexOne", fn := fun _ => fun
  | [d1, d2] => { results := [.lit (.bool true)], args := [d1, d2] }
  | _ => none }
def indexOneRow : OpenClaim := { program := "ytakflabokbaibaadoor", sum := "67d0e99cc6829e5d7476d014c7e18693a9136a9e5f4e65b936c9e68b4a41e82c", func := "marl/marllaw04.IndexOne", spec := "indexOne", named := ["marl/index.span"], apart := false, laid := [("marl/index.span", laid_marl_index_span)] }
def IndexOneSaid : Prop := indexOneRow.holds Tryd.pinned (OpenSpec.ofChange indexOneSpec)

/-- ITS FALSE NEIGHBOUR: 'it returns false'. Refute it at one input. -/
def indexOneWrong : ChangeSpec := { name := "indexOne", fn := fun _ => fun
  | [d1, d2] => { results := [.lit (.bool false)], args := [d1, d2] }
  | _ => none }
def IndexOneWrongFalsely : Prop := indexOneRow.holds Tryd.pinned (OpenSpec.ofChange indexOneWrong)

/-- 'marllaw04.IndexFalls': WHATEVER THE INPUT: true; the input reads as it did. -/
def indexFallsSpec : ChangeSpec := { name := "indexFalls", fn := fun _ => fun
  | [d1, d2] => { results := [.lit (.bool true)], args := [d1, d2] }
  | _ => none }
def indexFallsRow : OpenClaim := { program := "ytakflabokbaibaadoor", sum := "67d0e99cc6829e5d7476d014c7e18693a9136a9e5f4e65b936c9e68b4a41e82c", func := "marl/marllaw04.IndexFalls", spec := "indexFalls", named := ["marl/index.span"], apart := false, laid := [("marl/index.span", laid_marl_index_span)] }
def IndexFallsSaid : Prop := indexFallsRow.holds Tryd.pinned (OpenSpec.ofChange indexFallsSpec)

/-- ITS FALSE NEIGHBOUR: 'it returns false'. Refute it at one input. -/
def indexFallsWrong : ChangeSpec := { name := "indexFalls", fn := fun _ => fun
  | [d1, d2] => { results := [.lit (.bool false)], args := [d1, d2] }
  | _ => none }
def IndexFallsWrongFalsely : Prop := indexFallsRow.holds Tryd.pinned (OpenSpec.ofChange indexFallsWrong)

/-- 'marllaw04.IndexAll': WHATEVER THE INPUT: true; the input reads as it did. -/
def indexAllSpec : ChangeSpec := { name := "indexAll", fn := fun _ => fun
  | [d] => { results := [.lit (.bool true)], args := [d] }
  | _ => none }
def indexAllRow : OpenClaim := { program := "ytakflabokbaibaadoor", sum := "67d0e99cc6829e5d7476d014c7e18693a9136a9e5f4e65b936c9e68b4a41e82c", func := "marl/marllaw04.IndexAll", spec := "indexAll", named := ["marl/index.span"], apart := false, laid := [("marl/index.span", laid_marl_index_span)] }
def IndexAllSaid : Prop := indexAllRow.holds Tryd.pinned (OpenSpec.ofChange indexAllSpec)

/-- ITS FALSE NEIGHBOUR: 'it returns false'. Refute it at one input. -/
def indexAllWrong : ChangeSpec := { name := "indexAll", fn := fun _ => fun
  | [d] => { results := [.lit (.bool false)], args := [d] }
  | _ => none }
def IndexAllWrongFalsely : Prop := indexAllRow.holds Tryd.pinned (OpenSpec.ofChange indexAllWrong)

/- THE SECOND FORM. 'bulk': how many values and letters a reading holds, each counted each time it is reached (what is shared counts as often as it is met; a slice's spare places count too). A statement '..UptoSaid' is the law's where the arguments, and the package variables that the reading takes, are together of bulk at most 1048576: NARROWER than '..Said'. Prove '..Said' where nothing that the law and all that it calls make is longer than what came in: it says more and counts as full. Else prove '..UptoSaid'. A law counts once. -/
mutual
def uptoBulk {H : Type} : DataW H → Nat
  | .lit (.string bytes) => bytes.length + 1
  | .lit _ => 1
  | .nil => 1
  | .ptr d => uptoBulk d + 1
  | .slice elems spare => uptoBulkAll elems + uptoBulkAll spare + 1
  | .agg parts => uptoBulkAll parts + 1
  | .iface _ d => uptoBulk d + 1
  | .map entries => uptoBulkEntries entries + 1
  | .held _ => 1
def uptoBulkAll {H : Type} : List (DataW H) → Nat
  | [] => 0
  | d :: r => uptoBulk d + uptoBulkAll r
def uptoBulkEntries {H : Type} : List (Lit × DataW H) → Nat
  | [] => 0
  | x :: r => uptoBulkEntry x + uptoBulkEntries r
def uptoBulkEntry {H : Type} : Lit × DataW H → Nat
  | (.string bytes, d) => bytes.length + uptoBulk d + 1
  | (_, d) => uptoBulk d + 1
 end
def uptoSmall : (H : Type) → List (DataW H) → Bool := fun _ ds => decide (uptoBulkAll ds ≤ 1048576)
def OpenSpec.upto (s : _root_.Go.ChangeSpec) : _root_.Go.OpenSpec := { _root_.Go.OpenSpec.ofChange s with cond := some uptoSmall }

/-- 'marllaw04.IndexMetas', WHERE WHAT IT READS IS OF BULK AT MOST 1048576: true; the input reads as it did. -/
def indexMetasUptoRow : OpenClaim := { program := "ytakflabokbaibaadoor", sum := "67d0e99cc6829e5d7476d014c7e18693a9136a9e5f4e65b936c9e68b4a41e82c", func := "marl/marllaw04.IndexMetas", spec := "indexMetas", recurses := true, named := ["marl/index.span"], apart := false, laid := [("marl/index.span", laid_marl_index_span)], narrowed := true }
def IndexMetasUptoSaid : Prop := indexMetasUptoRow.holds Tryd.pinned (OpenSpec.upto indexMetasSpec)

/-- 'marllaw04.IndexEvery', WHERE WHAT IT READS IS OF BULK AT MOST 1048576: true; the input reads as it did. -/
def indexEveryUptoRow : OpenClaim := { program := "ytakflabokbaibaadoor", sum := "67d0e99cc6829e5d7476d014c7e18693a9136a9e5f4e65b936c9e68b4a41e82c", func := "marl/marllaw04.IndexEvery", spec := "indexEvery", named := ["marl/index.span"], apart := false, laid := [("marl/index.span", laid_marl_index_span)], narrowed := true }
def IndexEveryUptoSaid : Prop := indexEveryUptoRow.holds Tryd.pinned (OpenSpec.upto indexEverySpec)

/-- 'marllaw04.IndexParents', WHERE WHAT IT READS IS OF BULK AT MOST 1048576: true; the input reads as it did. -/
def indexParentsUptoRow : OpenClaim := { program := "ytakflabokbaibaadoor", sum := "67d0e99cc6829e5d7476d014c7e18693a9136a9e5f4e65b936c9e68b4a41e82c", func := "marl/marllaw04.IndexParents", spec := "indexParents", recurses := true, named := ["marl/index.span"], apart := false, laid := [("marl/index.span", laid_marl_index_span)], narrowed := true }
def IndexParentsUptoSaid : Prop := indexParentsUptoRow.holds Tryd.pinned (OpenSpec.upto indexParentsSpec)

/-- 'marllaw04.IndexPaths', WHERE WHAT IT READS IS OF BULK AT MOST 1048576: true; the input reads as it did. -/
def indexPathsUptoRow : OpenClaim := { program := "ytakflabokbaibaadoor", sum := "67d0e99cc6829e5d7476d014c7e18693a9136a9e5f4e65b936c9e68b4a41e82c", func := "marl/marllaw04.IndexPaths", spec := "indexPaths", recurses := true, named := ["marl/index.span"], apart := false, laid := [("marl/index.span", laid_marl_index_span)], narrowed := true }
def IndexPathsUptoSaid : Prop := indexPathsUptoRow.holds Tryd.pinned (OpenSpec.upto indexPathsSpec)

/-- 'marllaw04.IndexOne', WHERE WHAT IT READS IS OF BULK AT MOST 1048576: true; the input reads as it did. -/
def indexOneUptoRow : OpenClaim := { program := "ytakflabokbaibaadoor", sum := "67d0e99cc6829e5d7476d014c7e18693a9136a9e5f4e65b936c9e68b4a41e82c", func := "marl/marllaw04.IndexOne", spec := "indexOne", named := ["marl/index.span"], apart := false, laid := [("marl/index.span", laid_marl_index_span)], narrowed := true }
def IndexOneUptoSaid : Prop := indexOneUptoRow.holds Tryd.pinned (OpenSpec.upto indexOneSpec)

/-- 'marllaw04.IndexFalls', WHERE WHAT IT READS IS OF BULK AT MOST 1048576: true; the input reads as it did. -/
def indexFallsUptoRow : OpenClaim := { program := "ytakflabokbaibaadoor", sum := "67d0e99cc6829e5d7476d014c7e18693a9136a9e5f4e65b936c9e68b4a41e82c", func := "marl/marllaw04.IndexFalls", spec := "indexFalls", named := ["marl/index.span"], apart := false, laid := [("marl/index.span", laid_marl_index_span)], narrowed := true }
def IndexFallsUptoSaid : Prop := indexFallsUptoRow.holds Tryd.pinned (OpenSpec.upto indexFallsSpec)

/-- 'marllaw04.IndexAll', WHERE WHAT IT READS IS OF BULK AT MOST 1048576: true; the input reads as it did. -/
def indexAllUptoRow : OpenClaim := { program := "ytakflabokbaibaadoor", sum := "67d0e99cc6829e5d7476d014c7e18693a9136a9e5f4e65b936c9e68b4a41e82c", func := "marl/marllaw04.IndexAll", spec := "indexAll", named := ["marl/index.span"], apart := false, laid := [("marl/index.span", laid_marl_index_span)], narrowed := true }
def IndexAllUptoSaid : Prop := indexAllUptoRow.holds Tryd.pinned (OpenSpec.upto indexAllSpec)

end Rows
end Go.Proofs.YtakflabokbaibaaDoor
