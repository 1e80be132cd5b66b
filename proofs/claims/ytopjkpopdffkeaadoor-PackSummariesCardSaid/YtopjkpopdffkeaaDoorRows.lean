/-
  NARROWER THAN 'FOR EVERY INPUT', by the rows' own cells (each row's printed sentence says how): PackSummaries: laid.
  DERIVED. THE GIVEN ROWS OF THIS SEAT. 1 by the template 'for every input the law returns true; each argument reads behind the call as it read before'; 0 by the template 'total and deterministic' (their statements: YtopjkpopdffkeaaDoorTotals.lean).
  GIVEN WITH THE SEED: the statements are not yours to turn. If you find one false, say at which input.
  Laid BY PROGRAM, IN A SANDBOX (cutbox-rows.mjs): the forced cells as the released guide's own fill.sh prints them over the translation 81f818d7809767bc… (all of the seat's roots in one cut). By AI agents, Wed Nov 11 2026. No macro, syntax, notation, axiom, sorry.
-/
import Derived.Test.YtopjkpopdffkeaaDoorChecked
import GoSem.Claim
import GoSem.ClaimJoined
import GoSem.ClaimMapViews
import Derived.JoinedTies
import Derived.KernelRfl
namespace Go.Proofs.YtopjkpopdffkeaaDoor
/- THE CELL 'sum', in the pinned program and in every row, IS THE sha256 OF THE DUMP (.gsa) THAT YtopjkpopdffkeaaDoorProg.lean LOADS. Nothing in Lean hashes anything: it is a label: what it is worth is what the hold of that sum in a sandbox is worth. -/
noncomputable def Tryd.pinned : Pinned := { name := "ytopjkpopdffkeaadoor", sum := "81f818d7809767bc045bf4ba2296e103e1bbcf122c6a2fd4f7cf08507593cd8f", checked := Tryd.checked }
namespace Rows
def none {H : Type} : Left H := { results := [], args := [] }

/- WHAT THE LISTED PACKAGE-LEVEL VARIABLES READ AS WHEN THE CALL BEGINS. Each datum BY PROGRAM (the guide's laid-datum.mjs) off the statement by which the dump's own 'gosem.cut.vars' lays the variable. In a bare row this is a premise. The card (YtopjkpopdffkeaaDoorCards.lean) ties it to the program's text. -/
def laid_marl_index_span {H : Type} : DataW H := .agg [.lit (.int .i64 0), .lit (.int .i64 6), .lit (.int .i64 22), .lit (.int .i64 278), .lit (.int .i64 1073741824)]

/-- 'marllaw13.PackSummaries': WHATEVER THE INPUT: true; the input reads as it did. -/
def packSummariesSpec : ChangeSpec := { name := "packSummaries", fn := fun _ => fun
  | [d1, d2, d3] => { results := [.lit (.bool true)], args := [d1, d2, d3] }
  | _ => none }
def packSummariesRow : OpenClaim := { program := "ytopjkpopdffkeaadoor", sum := "81f818d7809767bc045bf4ba2296e103e1bbcf122c6a2fd4f7cf08507593cd8f", func := "marl/marllaw13.PackSummaries", spec := "packSummaries", unfollowed := true, recurses := true, named := ["marl/index.span"], apart := false, laid := [("marl/index.span", laid_marl_index_span)] }
def PackSummariesSaid : Prop := packSummariesRow.holds Tryd.pinned (OpenSpec.ofChange packSummariesSpec)

/-- ITS FALSE NEIGHBOUR: 'it returns false'. Refute it at one input. -/
def packSummariesWrong : ChangeSpec := { name := "packSummaries", fn := fun _ => fun
  | [d1, d2, d3] => { results := [.lit (.bool false)], args := [d1, d2, d3] }
  | _ => none }
def PackSummariesWrongFalsely : Prop := packSummariesRow.holds Tryd.pinned (OpenSpec.ofChange packSummariesWrong)

/- THE SECOND FORM. 'bulk': how many values and letters a reading holds, each counted each time it is reached (what is shared counts as often as it is met; a slice's spare places count too). A statement '..UptoSaid' is the law's where the arguments, and the package variables that the reading takes, are together of bulk at most 1048576: NARROWER than '..Said'. Prove '..Said' where nothing that the law and all that it calls make is longer than what came in: it says more and counts as full. Else prove '..UptoSaid'. A law counts once. -/
mutual
def uptoBulk {H : Type} : DataW H → Nat
  | .lit (.string bytes) => bytes.length + 1
  | .lit _ => 1
  | .nil => 1
  | .ptr d => uptoBulk d + 1
  | .slice elems spare => uptoBulkAll elems + uptoBulkAll spare + 1
  | .agg parts => uptoBulkAll parts + 1
  | .iface _ d => uptoBulk d + 1
  | .map entries => uptoBulkEntries entries + 1
  | .held _ => 1
def uptoBulkAll {H : Type} : List (DataW H) → Nat
  | [] => 0
  | d :: r => uptoBulk d + uptoBulkAll r
def uptoBulkEntries {H : Type} : List (Lit × DataW H) → Nat
  | [] => 0
  | x :: r => uptoBulkEntry x + uptoBulkEntries r
def uptoBulkEntry {H : Type} : Lit × DataW H → Nat
  | (.string bytes, d) => bytes.length + uptoBulk d + 1
  | (_, d) => uptoBulk d + 1
 end
def uptoSmall : (H : Type) → List (DataW H) → Bool := fun _ ds => decide (uptoBulkAll ds ≤ 1048576)
def OpenSpec.upto (s : _root_.Go.ChangeSpec) : _root_.Go.OpenSpec := { _root_.Go.OpenSpec.ofChange s with cond := some uptoSmall }

/-- 'marllaw13.PackSummaries', WHERE WHAT IT READS IS OF BULK AT MOST 1048576: true; the input reads as it did. -/
def packSummariesUptoRow : OpenClaim := { program := "ytopjkpopdffkeaadoor", sum := "81f818d7809767bc045bf4ba2296e103e1bbcf122c6a2fd4f7cf08507593cd8f", func := "marl/marllaw13.PackSummaries", spec := "packSummaries", unfollowed := true, recurses := true, named := ["marl/index.span"], apart := false, laid := [("marl/index.span", laid_marl_index_span)], narrowed := true }
def PackSummariesUptoSaid : Prop := packSummariesUptoRow.holds Tryd.pinned (OpenSpec.upto packSummariesSpec)

end Rows
end Go.Proofs.YtopjkpopdffkeaaDoor
