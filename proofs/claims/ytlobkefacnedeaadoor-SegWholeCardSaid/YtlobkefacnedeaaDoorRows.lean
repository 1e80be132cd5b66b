/-
  NARROWER THAN 'FOR EVERY INPUT', by the rows' own cells (each row's printed sentence says how): SegOwn: laid · SegWrites: laid · SegClears: laid · SegWhole: laid · SegRows: laid · SegBatches: laid.
  DERIVED. THE GIVEN ROWS OF THIS SEAT. 6 by the template 'for every input the law returns true; each argument reads behind the call as it read before'; 0 by the template 'total and deterministic' (their statements: YtlobkefacnedeaaDoorTotals.lean).
  GIVEN WITH THE SEED: the statements are not yours to turn. If you find one false, say at which input.
  Laid BY PROGRAM, IN A SANDBOX (cutbox-rows.mjs): the forced cells as the released guide's own fill.sh prints them over the translation ce3f2dce9bfb607e… (all of the seat's roots in one cut). By AI agents, Wed Nov 11 2026. No macro, syntax, notation, axiom, sorry.
-/
import Derived.Test.YtlobkefacnedeaaDoorChecked
import GoSem.Claim
import GoSem.ClaimJoined
import GoSem.ClaimMapViews
import Derived.JoinedTies
import Derived.KernelRfl
namespace Go.Proofs.YtlobkefacnedeaaDoor
/- THE CELL 'sum', in the pinned program and in every row, IS THE sha256 OF THE DUMP (.gsa) THAT YtlobkefacnedeaaDoorProg.lean LOADS. Nothing in Lean hashes anything: it is a label: what it is worth is what the hold of that sum in a sandbox is worth. -/
noncomputable def Tryd.pinned : Pinned := { name := "ytlobkefacnedeaadoor", sum := "ce3f2dce9bfb607e8eb9466d281781d64e4f890b1717340b5cbca8416f0f40a3", checked := Tryd.checked }
namespace Rows
def none {H : Type} : Left H := { results := [], args := [] }

/- WHAT THE LISTED PACKAGE-LEVEL VARIABLES READ AS WHEN THE CALL BEGINS. Each datum BY PROGRAM (the guide's laid-datum.mjs) off the statement by which the dump's own 'gosem.cut.vars' lays the variable. In a bare row this is a premise. The card (YtlobkefacnedeaaDoorCards.lean) ties it to the program's text. -/
def laid_marl_index_span {H : Type} : DataW H := .agg [.lit (.int .i64 0), .lit (.int .i64 6), .lit (.int .i64 22), .lit (.int .i64 278), .lit (.int .i64 1073741824)]

/-- 'marllaw15.SegOwn': WHATEVER THE INPUT: true; the input reads as it did. -/
def segOwnSpec : ChangeSpec := { name := "segOwn", fn := fun _ => fun
  | [d] => { results := [.lit (.bool true)], args := [d] }
  | _ => none }
def segOwnRow : OpenClaim := { program := "ytlobkefacnedeaadoor", sum := "ce3f2dce9bfb607e8eb9466d281781d64e4f890b1717340b5cbca8416f0f40a3", func := "marl/marllaw15.SegOwn", spec := "segOwn", unfollowed := true, recurses := true, named := ["marl/index.span"], apart := false, laid := [("marl/index.span", laid_marl_index_span)] }
def SegOwnSaid : Prop := segOwnRow.holds Tryd.pinned (OpenSpec.ofChange segOwnSpec)

/-- ITS FALSE NEIGHBOUR: 'it returns false'. Refute it at one input. -/
def segOwnWrong : ChangeSpec := { name := "segOwn", fn := fun _ => fun
  | [d] => { results := [.lit (.bool false)], args := [d] }
  | _ => none }
def SegOwnWrongFalsely : Prop := segOwnRow.holds Tryd.pinned (OpenSpec.ofChange segOwnWrong)

/-- 'marllaw15.SegWrites': WHATEVER THE INPUT: true; the input reads as it did. -/
def segWritesSpec : ChangeSpec := { name := "segWrites", fn := fun _ => fun
  | [d1, d2, d3] => { results := [.lit (.bool true)], args := [d1, d2, d3] }
  | _ => none }
def segWritesRow : OpenClaim := { program := "ytlobkefacnedeaadoor", sum := "ce3f2dce9bfb607e8eb9466d281781d64e4f890b1717340b5cbca8416f0f40a3", func := "marl/marllaw15.SegWrites", spec := "segWrites", unfollowed := true, recurses := true, named := ["marl/index.span"], apart := false, laid := [("marl/index.span", laid_marl_index_span)] }
def SegWritesSaid : Prop := segWritesRow.holds Tryd.pinned (OpenSpec.ofChange segWritesSpec)

/-- ITS FALSE NEIGHBOUR: 'it returns false'. Refute it at one input. -/
def segWritesWrong : ChangeSpec := { name := "segWrites", fn := fun _ => fun
  | [d1, d2, d3] => { results := [.lit (.bool false)], args := [d1, d2, d3] }
  | _ => none }
def SegWritesWrongFalsely : Prop := segWritesRow.holds Tryd.pinned (OpenSpec.ofChange segWritesWrong)

/-- 'marllaw15.SegClears': WHATEVER THE INPUT: true; the input reads as it did. -/
def segClearsSpec : ChangeSpec := { name := "segClears", fn := fun _ => fun
  | [d1, d2] => { results := [.lit (.bool true)], args := [d1, d2] }
  | _ => none }
def segClearsRow : OpenClaim := { program := "ytlobkefacnedeaadoor", sum := "ce3f2dce9bfb607e8eb9466d281781d64e4f890b1717340b5cbca8416f0f40a3", func := "marl/marllaw15.SegClears", spec := "segClears", unfollowed := true, recurses := true, named := ["marl/index.span"], apart := false, laid := [("marl/index.span", laid_marl_index_span)] }
def SegClearsSaid : Prop := segClearsRow.holds Tryd.pinned (OpenSpec.ofChange segClearsSpec)

/-- ITS FALSE NEIGHBOUR: 'it returns false'. Refute it at one input. -/
def segClearsWrong : ChangeSpec := { name := "segClears", fn := fun _ => fun
  | [d1, d2] => { results := [.lit (.bool false)], args := [d1, d2] }
  | _ => none }
def SegClearsWrongFalsely : Prop := segClearsRow.holds Tryd.pinned (OpenSpec.ofChange segClearsWrong)

/-- 'marllaw15.SegWhole': WHATEVER THE INPUT: true; the input reads as it did. -/
def segWholeSpec : ChangeSpec := { name := "segWhole", fn := fun _ => fun
  | [d1, d2, d3] => { results := [.lit (.bool true)], args := [d1, d2, d3] }
  | _ => none }
def segWholeRow : OpenClaim := { program := "ytlobkefacnedeaadoor", sum := "ce3f2dce9bfb607e8eb9466d281781d64e4f890b1717340b5cbca8416f0f40a3", func := "marl/marllaw15.SegWhole", spec := "segWhole", unfollowed := true, recurses := true, named := ["marl/index.span"], apart := false, laid := [("marl/index.span", laid_marl_index_span)] }
def SegWholeSaid : Prop := segWholeRow.holds Tryd.pinned (OpenSpec.ofChange segWholeSpec)

/-- ITS FALSE NEIGHBOUR: 'it returns false'. Refute it at one input. -/
def segWholeWrong : ChangeSpec := { name := "segWhole", fn := fun _ => fun
  | [d1, d2, d3] => { results := [.lit (.bool false)], args := [d1, d2, d3] }
  | _ => none }
def SegWholeWrongFalsely : Prop := segWholeRow.holds Tryd.pinned (OpenSpec.ofChange segWholeWrong)

/-- 'marllaw15.SegRows': WHATEVER THE INPUT: true; the input reads as it did. -/
def segRowsSpec : ChangeSpec := { name := "segRows", fn := fun _ => fun
  | [d1, d2] => { results := [.lit (.bool true)], args := [d1, d2] }
  | _ => none }
def segRowsRow : OpenClaim := { program := "ytlobkefacnedeaadoor", sum := "ce3f2dce9bfb607e8eb9466d281781d64e4f890b1717340b5cbca8416f0f40a3", func := "marl/marllaw15.SegRows", spec := "segRows", unfollowed := true, recurses := true, named := ["marl/index.span"], apart := false, laid := [("marl/index.span", laid_marl_index_span)] }
def SegRowsSaid : Prop := segRowsRow.holds Tryd.pinned (OpenSpec.ofChange segRowsSpec)

/-- ITS FALSE NEIGHBOUR: 'it returns false'. Refute it at one input. -/
def segRowsWrong : ChangeSpec := { name := "segRows", fn := fun _ => fun
  | [d1, d2] => { results := [.lit (.bool false)], args := [d1, d2] }
  | _ => none }
def SegRowsWrongFalsely : Prop := segRowsRow.holds Tryd.pinned (OpenSpec.ofChange segRowsWrong)

/-- 'marllaw15.SegBatches': WHATEVER THE INPUT: true; the input reads as it did. -/
def segBatchesSpec : ChangeSpec := { name := "segBatches", fn := fun _ => fun
  | [d1, d2, d3] => { results := [.lit (.bool true)], args := [d1, d2, d3] }
  | _ => none }
def segBatchesRow : OpenClaim := { program := "ytlobkefacnedeaadoor", sum := "ce3f2dce9bfb607e8eb9466d281781d64e4f890b1717340b5cbca8416f0f40a3", func := "marl/marllaw15.SegBatches", spec := "segBatches", unfollowed := true, recurses := true, named := ["marl/index.span"], apart := false, laid := [("marl/index.span", laid_marl_index_span)] }
def SegBatchesSaid : Prop := segBatchesRow.holds Tryd.pinned (OpenSpec.ofChange segBatchesSpec)

/-- ITS FALSE NEIGHBOUR: 'it returns false'. Refute it at one input. -/
def segBatchesWrong : ChangeSpec := { name := "segBatches", fn := fun _ => fun
  | [d1, d2, d3] => { results := [.lit (.bool false)], args := [d1, d2, d3] }
  | _ => none }
def SegBatchesWrongFalsely : Prop := segBatchesRow.holds Tryd.pinned (OpenSpec.ofChange segBatchesWrong)

/- THE SECOND FORM. 'bulk': how many values and letters a reading holds, each counted each time it is reached (what is shared counts as often as it is met; a slice's spare places count too). A statement '..UptoSaid' is the law's where the arguments, and the package variables that the reading takes, are together of bulk at most 1048576: NARROWER than '..Said'. Prove '..Said' where nothing that the law and all that it calls make is longer than what came in: it says more and counts as full. Else prove '..UptoSaid'. A law counts once. -/
mutual
def uptoBulk {H : Type} : DataW H → Nat
  | .lit (.string bytes) => bytes.length + 1
  | .lit _ => 1
  | .nil => 1
  | .ptr d => uptoBulk d + 1
  | .slice elems spare => uptoBulkAll elems + uptoBulkAll spare + 1
  | .agg parts => uptoBulkAll parts + 1
  | .iface _ d => uptoBulk d + 1
  | .map entries => uptoBulkEntries entries + 1
  | .held _ => 1
def uptoBulkAll {H : Type} : List (DataW H) → Nat
  | [] => 0
  | d :: r => uptoBulk d + uptoBulkAll r
def uptoBulkEntries {H : Type} : List (Lit × DataW H) → Nat
  | [] => 0
  | x :: r => uptoBulkEntry x + uptoBulkEntries r
def uptoBulkEntry {H : Type} : Lit × DataW H → Nat
  | (.string bytes, d) => bytes.length + uptoBulk d + 1
  | (_, d) => uptoBulk d + 1
 end
def uptoSmall : (H : Type) → List (DataW H) → Bool := fun _ ds => decide (uptoBulkAll ds ≤ 1048576)
def OpenSpec.upto (s : _root_.Go.ChangeSpec) : _root_.Go.OpenSpec := { _root_.Go.OpenSpec.ofChange s with cond := some uptoSmall }

/-- 'marllaw15.SegOwn', WHERE WHAT IT READS IS OF BULK AT MOST 1048576: true; the input reads as it did. -/
def segOwnUptoRow : OpenClaim := { program := "ytlobkefacnedeaadoor", sum := "ce3f2dce9bfb607e8eb9466d281781d64e4f890b1717340b5cbca8416f0f40a3", func := "marl/marllaw15.SegOwn", spec := "segOwn", unfollowed := true, recurses := true, named := ["marl/index.span"], apart := false, laid := [("marl/index.span", laid_marl_index_span)], narrowed := true }
def SegOwnUptoSaid : Prop := segOwnUptoRow.holds Tryd.pinned (OpenSpec.upto segOwnSpec)

/-- 'marllaw15.SegWrites', WHERE WHAT IT READS IS OF BULK AT MOST 1048576: true; the input reads as it did. -/
def segWritesUptoRow : OpenClaim := { program := "ytlobkefacnedeaadoor", sum := "ce3f2dce9bfb607e8eb9466d281781d64e4f890b1717340b5cbca8416f0f40a3", func := "marl/marllaw15.SegWrites", spec := "segWrites", unfollowed := true, recurses := true, named := ["marl/index.span"], apart := false, laid := [("marl/index.span", laid_marl_index_span)], narrowed := true }
def SegWritesUptoSaid : Prop := segWritesUptoRow.holds Tryd.pinned (OpenSpec.upto segWritesSpec)

/-- 'marllaw15.SegClears', WHERE WHAT IT READS IS OF BULK AT MOST 1048576: true; the input reads as it did. -/
def segClearsUptoRow : OpenClaim := { program := "ytlobkefacnedeaadoor", sum := "ce3f2dce9bfb607e8eb9466d281781d64e4f890b1717340b5cbca8416f0f40a3", func := "marl/marllaw15.SegClears", spec := "segClears", unfollowed := true, recurses := true, named := ["marl/index.span"], apart := false, laid := [("marl/index.span", laid_marl_index_span)], narrowed := true }
def SegClearsUptoSaid : Prop := segClearsUptoRow.holds Tryd.pinned (OpenSpec.upto segClearsSpec)

/-- 'marllaw15.SegWhole', WHERE WHAT IT READS IS OF BULK AT MOST 1048576: true; the input reads as it did. -/
def segWholeUptoRow : OpenClaim := { program := "ytlobkefacnedeaadoor", sum := "ce3f2dce9bfb607e8eb9466d281781d64e4f890b1717340b5cbca8416f0f40a3", func := "marl/marllaw15.SegWhole", spec := "segWhole", unfollowed := true, recurses := true, named := ["marl/index.span"], apart := false, laid := [("marl/index.span", laid_marl_index_span)], narrowed := true }
def SegWholeUptoSaid : Prop := segWholeUptoRow.holds Tryd.pinned (OpenSpec.upto segWholeSpec)

/-- 'marllaw15.SegRows', WHERE WHAT IT READS IS OF BULK AT MOST 1048576: true; the input reads as it did. -/
def segRowsUptoRow : OpenClaim := { program := "ytlobkefacnedeaadoor", sum := "ce3f2dce9bfb607e8eb9466d281781d64e4f890b1717340b5cbca8416f0f40a3", func := "marl/marllaw15.SegRows", spec := "segRows", unfollowed := true, recurses := true, named := ["marl/index.span"], apart := false, laid := [("marl/index.span", laid_marl_index_span)], narrowed := true }
def SegRowsUptoSaid : Prop := segRowsUptoRow.holds Tryd.pinned (OpenSpec.upto segRowsSpec)

/-- 'marllaw15.SegBatches', WHERE WHAT IT READS IS OF BULK AT MOST 1048576: true; the input reads as it did. -/
def segBatchesUptoRow : OpenClaim := { program := "ytlobkefacnedeaadoor", sum := "ce3f2dce9bfb607e8eb9466d281781d64e4f890b1717340b5cbca8416f0f40a3", func := "marl/marllaw15.SegBatches", spec := "segBatches", unfollowed := true, recurses := true, named := ["marl/index.span"], apart := false, laid := [("marl/index.span", laid_marl_index_span)], narrowed := true }
def SegBatchesUptoSaid : Prop := segBatchesUptoRow.holds Tryd.pinned (OpenSpec.upto segBatchesSpec)

end Rows
end Go.Proofs.YtlobkefacnedeaaDoor
