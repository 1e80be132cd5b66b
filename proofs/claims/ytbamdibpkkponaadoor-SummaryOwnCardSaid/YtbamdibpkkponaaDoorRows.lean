/-
  NARROWER THAN 'FOR EVERY INPUT', by the rows' own cells (each row's printed sentence says how): SummaryWrites: laid · SummaryReads: laid · SummaryMixed: laid · SummaryOwn: laid · SummaryFits: laid · SummaryOne: laid.
  DERIVED. THE GIVEN ROWS OF THIS SEAT. 6 by the template 'for every input the law returns true; each argument reads behind the call as it read before'; 0 by the template 'total and deterministic' (their statements: YtbamdibpkkponaaDoorTotals.lean).
  GIVEN WITH THE SEED: the statements are not yours to turn. If you find one false, say at which input.
  Laid BY PROGRAM, IN A SANDBOX (cutbox-rows.mjs): the forced cells as the released guide's own fill.sh prints them over the translation c3132724bf35a0aa… (all of the seat's roots in one cut). By AI agents, Wed Nov 11 2026. No macro, syntax, notation, axiom, sorry.
-/
import Derived.Test.YtbamdibpkkponaaDoorChecked
import GoSem.Claim
import GoSem.ClaimJoined
import GoSem.ClaimMapViews
import Derived.JoinedTies
import Derived.KernelRfl
namespace Go.Proofs.YtbamdibpkkponaaDoor
/- THE CELL 'sum', in the pinned program and in every row, IS THE sha256 OF THE DUMP (.gsa) THAT YtbamdibpkkponaaDoorProg.lean LOADS. Nothing in Lean hashes anything: it is a label: what it is worth is what the hold of that sum in a sandbox is worth. -/
noncomputable def Tryd.pinned : Pinned := { name := "ytbamdibpkkponaadoor", sum := "c3132724bf35a0aa69696ee31ce0282751e146f9a63a9fb3fef9f36fc90a87e2", checked := Tryd.checked }
namespace Rows
def none {H : Type} : Left H := { results := [], args := [] }

/- WHAT THE LISTED PACKAGE-LEVEL VARIABLES READ AS WHEN THE CALL BEGINS. Each datum BY PROGRAM (the guide's laid-datum.mjs) off the statement by which the dump's own 'gosem.cut.vars' lays the variable. In a bare row this is a premise. The card (YtbamdibpkkponaaDoorCards.lean) ties it to the program's text. -/
def laid_marl_index_span {H : Type} : DataW H := .agg [.lit (.int .i64 0), .lit (.int .i64 6), .lit (.int .i64 22), .lit (.int .i64 278), .lit (.int .i64 1073741824)]

/-- 'marllaw06.SummaryWrites': WHATEVER THE INPUT: true; the input reads as it did. -/
def summaryWritesSpec : ChangeSpec := { name := "summaryWrites", fn := fun _ => fun
  | [d1, d2] => { results := [.lit (.bool true)], args := [d1, d2] }
  | _ => none }
def summaryWritesRow : OpenClaim := { program := "ytbamdibpkkponaadoor", sum := "c3132724bf35a0aa69696ee31ce0282751e146f9a63a9fb3fef9f36fc90a87e2", func := "marl/marllaw06.SummaryWrites", spec := "summaryWrites", unfollowed := true, recurses := true, named := ["marl/index.span"], apart := false, laid := [("marl/index.span", laid_marl_index_span)] }
def SummaryWritesSaid : Prop := summaryWritesRow.holds Tryd.pinned (OpenSpec.ofChange summaryWritesSpec)

/-- ITS FALSE NEIGHBOUR: 'it returns false'. Refute it at one input. -/
def summaryWritesWrong : ChangeSpec := { name := "summaryWrites", fn := fun _ => fun
  | [d1, d2] => { results := [.lit (.bool false)], args := [d1, d2] }
  | _ => none }
def SummaryWritesWrongFalsely : Prop := summaryWritesRow.holds Tryd.pinned (OpenSpec.ofChange summaryWritesWrong)

/-- 'marllaw06.SummaryReads': WHATEVER THE INPUT: true; the input reads as it did. -/
def summaryReadsSpec : ChangeSpec := { name := "summaryReads", fn := fun _ => fun
  | [d] => { results := [.lit (.bool true)], args := [d] }
  | _ => none }
def summaryReadsRow : OpenClaim := { program := "ytbamdibpkkponaadoor", sum := "c3132724bf35a0aa69696ee31ce0282751e146f9a63a9fb3fef9f36fc90a87e2", func := "marl/marllaw06.SummaryReads", spec := "summaryReads", unfollowed := true, recurses := true, named := ["marl/index.span"], apart := false, laid := [("marl/index.span", laid_marl_index_span)] }
def SummaryReadsSaid : Prop := summaryReadsRow.holds Tryd.pinned (OpenSpec.ofChange summaryReadsSpec)

/-- ITS FALSE NEIGHBOUR: 'it returns false'. Refute it at one input. -/
def summaryReadsWrong : ChangeSpec := { name := "summaryReads", fn := fun _ => fun
  | [d] => { results := [.lit (.bool false)], args := [d] }
  | _ => none }
def SummaryReadsWrongFalsely : Prop := summaryReadsRow.holds Tryd.pinned (OpenSpec.ofChange summaryReadsWrong)

/-- 'marllaw06.SummaryMixed': WHATEVER THE INPUT: true; the input reads as it did. -/
def summaryMixedSpec : ChangeSpec := { name := "summaryMixed", fn := fun _ => fun
  | [d1, d2, d3] => { results := [.lit (.bool true)], args := [d1, d2, d3] }
  | _ => none }
def summaryMixedRow : OpenClaim := { program := "ytbamdibpkkponaadoor", sum := "c3132724bf35a0aa69696ee31ce0282751e146f9a63a9fb3fef9f36fc90a87e2", func := "marl/marllaw06.SummaryMixed", spec := "summaryMixed", unfollowed := true, recurses := true, named := ["marl/index.span"], apart := false, laid := [("marl/index.span", laid_marl_index_span)] }
def SummaryMixedSaid : Prop := summaryMixedRow.holds Tryd.pinned (OpenSpec.ofChange summaryMixedSpec)

/-- ITS FALSE NEIGHBOUR: 'it returns false'. Refute it at one input. -/
def summaryMixedWrong : ChangeSpec := { name := "summaryMixed", fn := fun _ => fun
  | [d1, d2, d3] => { results := [.lit (.bool false)], args := [d1, d2, d3] }
  | _ => none }
def SummaryMixedWrongFalsely : Prop := summaryMixedRow.holds Tryd.pinned (OpenSpec.ofChange summaryMixedWrong)

/-- 'marllaw06.SummaryOwn': WHATEVER THE INPUT: true; the input reads as it did. -/
def summaryOwnSpec : ChangeSpec := { name := "summaryOwn", fn := fun _ => fun
  | [d1, d2] => { results := [.lit (.bool true)], args := [d1, d2] }
  | _ => none }
def summaryOwnRow : OpenClaim := { program := "ytbamdibpkkponaadoor", sum := "c3132724bf35a0aa69696ee31ce0282751e146f9a63a9fb3fef9f36fc90a87e2", func := "marl/marllaw06.SummaryOwn", spec := "summaryOwn", unfollowed := true, recurses := true, named := ["marl/index.span"], apart := false, laid := [("marl/index.span", laid_marl_index_span)] }
def SummaryOwnSaid : Prop := summaryOwnRow.holds Tryd.pinned (OpenSpec.ofChange summaryOwnSpec)

/-- ITS FALSE NEIGHBOUR: 'it returns false'. Refute it at one input. -/
def summaryOwnWrong : ChangeSpec := { name := "summaryOwn", fn := fun _ => fun
  | [d1, d2] => { results := [.lit (.bool false)], args := [d1, d2] }
  | _ => none }
def SummaryOwnWrongFalsely : Prop := summaryOwnRow.holds Tryd.pinned (OpenSpec.ofChange summaryOwnWrong)

/-- 'marllaw06.SummaryFits': WHATEVER THE INPUT: true; the input reads as it did. -/
def summaryFitsSpec : ChangeSpec := { name := "summaryFits", fn := fun _ => fun
  | [d1, d2] => { results := [.lit (.bool true)], args := [d1, d2] }
  | _ => none }
def summaryFitsRow : OpenClaim := { program := "ytbamdibpkkponaadoor", sum := "c3132724bf35a0aa69696ee31ce0282751e146f9a63a9fb3fef9f36fc90a87e2", func := "marl/marllaw06.SummaryFits", spec := "summaryFits", unfollowed := true, recurses := true, named := ["marl/index.span"], apart := false, laid := [("marl/index.span", laid_marl_index_span)] }
def SummaryFitsSaid : Prop := summaryFitsRow.holds Tryd.pinned (OpenSpec.ofChange summaryFitsSpec)

/-- ITS FALSE NEIGHBOUR: 'it returns false'. Refute it at one input. -/
def summaryFitsWrong : ChangeSpec := { name := "summaryFits", fn := fun _ => fun
  | [d1, d2] => { results := [.lit (.bool false)], args := [d1, d2] }
  | _ => none }
def SummaryFitsWrongFalsely : Prop := summaryFitsRow.holds Tryd.pinned (OpenSpec.ofChange summaryFitsWrong)

/-- 'marllaw06.SummaryOne': WHATEVER THE INPUT: true; the input reads as it did. -/
def summaryOneSpec : ChangeSpec := { name := "summaryOne", fn := fun _ => fun
  | [d1, d2, d3] => { results := [.lit (.bool true)], args := [d1, d2, d3] }
  | _ => none }
def summaryOneRow : OpenClaim := { program := "ytbamdibpkkponaadoor", sum := "c3132724bf35a0aa69696ee31ce0282751e146f9a63a9fb3fef9f36fc90a87e2", func := "marl/marllaw06.SummaryOne", spec := "summaryOne", unfollowed := true, recurses := true, named := ["marl/index.span"], apart := false, laid := [("marl/index.span", laid_marl_index_span)] }
def SummaryOneSaid : Prop := summaryOneRow.holds Tryd.pinned (OpenSpec.ofChange summaryOneSpec)

/-- ITS FALSE NEIGHBOUR: 'it returns false'. Refute it at one input. -/
def summaryOneWrong : ChangeSpec := { name := "summaryOne", fn := fun _ => fun
  | [d1, d2, d3] => { results := [.lit (.bool false)], args := [d1, d2, d3] }
  | _ => none }
def SummaryOneWrongFalsely : Prop := summaryOneRow.holds Tryd.pinned (OpenSpec.ofChange summaryOneWrong)

/- THE SECOND FORM. 'bulk': how many values and letters a reading holds, each counted each time it is reached (what is shared counts as often as it is met; a slice's spare places count too). A statement '..UptoSaid' is the law's where the arguments, and the package variables that the reading takes, are together of bulk at most 1048576: NARROWER than '..Said'. Prove '..Said' where nothing that the law and all that it calls make is longer than what came in: it says more and counts as full. Else prove '..UptoSaid'. A law counts once. -/
mutual
def uptoBulk {H : Type} : DataW H → Nat
  | .lit (.string bytes) => bytes.length + 1
  | .lit _ => 1
  | .nil => 1
  | .ptr d => uptoBulk d + 1
  | .slice elems spare => uptoBulkAll elems + uptoBulkAll spare + 1
  | .agg parts => uptoBulkAll parts + 1
  | .iface _ d => uptoBulk d + 1
  | .map entries => uptoBulkEntries entries + 1
  | .held _ => 1
def uptoBulkAll {H : Type} : List (DataW H) → Nat
  | [] => 0
  | d :: r => uptoBulk d + uptoBulkAll r
def uptoBulkEntries {H : Type} : List (Lit × DataW H) → Nat
  | [] => 0
  | x :: r => uptoBulkEntry x + uptoBulkEntries r
def uptoBulkEntry {H : Type} : Lit × DataW H → Nat
  | (.string bytes, d) => bytes.length + uptoBulk d + 1
  | (_, d) => uptoBulk d + 1
 end
def uptoSmall : (H : Type) → List (DataW H) → Bool := fun _ ds => decide (uptoBulkAll ds ≤ 1048576)
def OpenSpec.upto (s : _root_.Go.ChangeSpec) : _root_.Go.OpenSpec := { _root_.Go.OpenSpec.ofChange s with cond := some uptoSmall }

/-- 'marllaw06.SummaryWrites', WHERE WHAT IT READS IS OF BULK AT MOST 1048576: true; the input reads as it did. -/
def summaryWritesUptoRow : OpenClaim := { program := "ytbamdibpkkponaadoor", sum := "c3132724bf35a0aa69696ee31ce0282751e146f9a63a9fb3fef9f36fc90a87e2", func := "marl/marllaw06.SummaryWrites", spec := "summaryWrites", unfollowed := true, recurses := true, named := ["marl/index.span"], apart := false, laid := [("marl/index.span", laid_marl_index_span)], narrowed := true }
def SummaryWritesUptoSaid : Prop := summaryWritesUptoRow.holds Tryd.pinned (OpenSpec.upto summaryWritesSpec)

/-- 'marllaw06.SummaryReads', WHERE WHAT IT READS IS OF BULK AT MOST 1048576: true; the input reads as it did. -/
def summaryReadsUptoRow : OpenClaim := { program := "ytbamdibpkkponaadoor", sum := "c3132724bf35a0aa69696ee31ce0282751e146f9a63a9fb3fef9f36fc90a87e2", func := "marl/marllaw06.SummaryReads", spec := "summaryReads", unfollowed := true, recurses := true, named := ["marl/index.span"], apart := false, laid := [("marl/index.span", laid_marl_index_span)], narrowed := true }
def SummaryReadsUptoSaid : Prop := summaryReadsUptoRow.holds Tryd.pinned (OpenSpec.upto summaryReadsSpec)

/-- 'marllaw06.SummaryMixed', WHERE WHAT IT READS IS OF BULK AT MOST 1048576: true; the input reads as it did. -/
def summaryMixedUptoRow : OpenClaim := { program := "ytbamdibpkkponaadoor", sum := "c3132724bf35a0aa69696ee31ce0282751e146f9a63a9fb3fef9f36fc90a87e2", func := "marl/marllaw06.SummaryMixed", spec := "summaryMixed", unfollowed := true, recurses := true, named := ["marl/index.span"], apart := false, laid := [("marl/index.span", laid_marl_index_span)], narrowed := true }
def SummaryMixedUptoSaid : Prop := summaryMixedUptoRow.holds Tryd.pinned (OpenSpec.upto summaryMixedSpec)

/-- 'marllaw06.SummaryOwn', WHERE WHAT IT READS IS OF BULK AT MOST 1048576: true; the input reads as it did. -/
def summaryOwnUptoRow : OpenClaim := { program := "ytbamdibpkkponaadoor", sum := "c3132724bf35a0aa69696ee31ce0282751e146f9a63a9fb3fef9f36fc90a87e2", func := "marl/marllaw06.SummaryOwn", spec := "summaryOwn", unfollowed := true, recurses := true, named := ["marl/index.span"], apart := false, laid := [("marl/index.span", laid_marl_index_span)], narrowed := true }
def SummaryOwnUptoSaid : Prop := summaryOwnUptoRow.holds Tryd.pinned (OpenSpec.upto summaryOwnSpec)

/-- 'marllaw06.SummaryFits', WHERE WHAT IT READS IS OF BULK AT MOST 1048576: true; the input reads as it did. -/
def summaryFitsUptoRow : OpenClaim := { program := "ytbamdibpkkponaadoor", sum := "c3132724bf35a0aa69696ee31ce0282751e146f9a63a9fb3fef9f36fc90a87e2", func := "marl/marllaw06.SummaryFits", spec := "summaryFits", unfollowed := true, recurses := true, named := ["marl/index.span"], apart := false, laid := [("marl/index.span", laid_marl_index_span)], narrowed := true }
def SummaryFitsUptoSaid : Prop := summaryFitsUptoRow.holds Tryd.pinned (OpenSpec.upto summaryFitsSpec)

/-- 'marllaw06.SummaryOne', WHERE WHAT IT READS IS OF BULK AT MOST 1048576: true; the input reads as it did. -/
def summaryOneUptoRow : OpenClaim := { program := "ytbamdibpkkponaadoor", sum := "c3132724bf35a0aa69696ee31ce0282751e146f9a63a9fb3fef9f36fc90a87e2", func := "marl/marllaw06.SummaryOne", spec := "summaryOne", unfollowed := true, recurses := true, named := ["marl/index.span"], apart := false, laid := [("marl/index.span", laid_marl_index_span)], narrowed := true }
def SummaryOneUptoSaid : Prop := summaryOneUptoRow.holds Tryd.pinned (OpenSpec.upto summaryOneSpec)

end Rows
end Go.Proofs.YtbamdibpkkponaaDoor
