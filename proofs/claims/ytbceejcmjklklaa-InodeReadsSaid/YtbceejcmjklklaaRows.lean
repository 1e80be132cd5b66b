/-
  No cell of these rows narrows 'for every input' (looked for: loops, veiled, ifaces, maps, wideKeys, modest, calm, conditions, laid).
  DERIVED. THE GIVEN ROWS OF THIS SEAT. 7 by the template 'for every input the law returns true; each argument reads behind the call as it read before'; 0 by the template 'total and deterministic' (their statements: YtbceejcmjklklaaTotals.lean).
  GIVEN WITH THE SEED: the statements are not yours to turn. If you find one false, say at which input.
  Laid BY PROGRAM, IN A SANDBOX (cutbox-rows.mjs): the forced cells as the released guide's own fill.sh prints them over the translation 7036cca879ee53af… (all of the seat's roots in one cut). By AI agents, Wed Nov 11 2026. No macro, syntax, notation, axiom, sorry.
-/
import Derived.Test.YtbceejcmjklklaaChecked
import GoSem.Claim
import GoSem.ClaimJoined
import GoSem.ClaimMapViews
import Derived.JoinedTies
import Derived.KernelRfl
namespace Go.Proofs.Ytbceejcmjklklaa
/- THE CELL 'sum', in the pinned program and in every row, IS THE sha256 OF THE DUMP (.gsa) THAT YtbceejcmjklklaaProg.lean LOADS. Nothing in Lean hashes anything: it is a label: what it is worth is what the hold of that sum in a sandbox is worth. -/
noncomputable def Try.pinned : Pinned := { name := "ytbceejcmjklklaa", sum := "7036cca879ee53af30a52dc26931cd566f6f38d70dee356f6ab7bf33417ebfca", checked := Try.checked }
namespace Rows
def none {H : Type} : Left H := { results := [], args := [] }

/-- 'marllaw05.InodeBlocks': WHATEVER THE INPUT: true; the input reads as it did. -/
def inodeBlocksSpec : ChangeSpec := { name := "inodeBlocks", fn := fun _ => fun
  | [d] => { results := [.lit (.bool true)], args := [d] }
  | _ => none }
def inodeBlocksRow : OpenClaim := { program := "ytbceejcmjklklaa", sum := "7036cca879ee53af30a52dc26931cd566f6f38d70dee356f6ab7bf33417ebfca", func := "marl/marllaw05.InodeBlocks", spec := "inodeBlocks", apart := false }
def InodeBlocksSaid : Prop := inodeBlocksRow.holds Try.pinned (OpenSpec.ofChange inodeBlocksSpec)

/-- ITS FALSE NEIGHBOUR: 'it returns false'. Refute it at one input. -/
def inodeBlocksWrong : ChangeSpec := { name := "inodeBlocks", fn := fun _ => fun
  | [d] => { results := [.lit (.bool false)], args := [d] }
  | _ => none }
def InodeBlocksWrongFalsely : Prop := inodeBlocksRow.holds Try.pinned (OpenSpec.ofChange inodeBlocksWrong)

/-- 'marllaw05.InodeOne': WHATEVER THE INPUT: true; the input reads as it did. -/
def inodeOneSpec : ChangeSpec := { name := "inodeOne", fn := fun _ => fun
  | [d1, d2] => { results := [.lit (.bool true)], args := [d1, d2] }
  | _ => none }
def inodeOneRow : OpenClaim := { program := "ytbceejcmjklklaa", sum := "7036cca879ee53af30a52dc26931cd566f6f38d70dee356f6ab7bf33417ebfca", func := "marl/marllaw05.InodeOne", spec := "inodeOne", apart := false }
def InodeOneSaid : Prop := inodeOneRow.holds Try.pinned (OpenSpec.ofChange inodeOneSpec)

/-- ITS FALSE NEIGHBOUR: 'it returns false'. Refute it at one input. -/
def inodeOneWrong : ChangeSpec := { name := "inodeOne", fn := fun _ => fun
  | [d1, d2] => { results := [.lit (.bool false)], args := [d1, d2] }
  | _ => none }
def InodeOneWrongFalsely : Prop := inodeOneRow.holds Try.pinned (OpenSpec.ofChange inodeOneWrong)

/-- 'marllaw05.InodeLists': WHATEVER THE INPUT: true; the input reads as it did. -/
def inodeListsSpec : ChangeSpec := { name := "inodeLists", fn := fun _ => fun
  | [d1, d2] => { results := [.lit (.bool true)], args := [d1, d2] }
  | _ => none }
def inodeListsRow : OpenClaim := { program := "ytbceejcmjklklaa", sum := "7036cca879ee53af30a52dc26931cd566f6f38d70dee356f6ab7bf33417ebfca", func := "marl/marllaw05.InodeLists", spec := "inodeLists", apart := false }
def InodeListsSaid : Prop := inodeListsRow.holds Try.pinned (OpenSpec.ofChange inodeListsSpec)

/-- ITS FALSE NEIGHBOUR: 'it returns false'. Refute it at one input. -/
def inodeListsWrong : ChangeSpec := { name := "inodeLists", fn := fun _ => fun
  | [d1, d2] => { results := [.lit (.bool false)], args := [d1, d2] }
  | _ => none }
def InodeListsWrongFalsely : Prop := inodeListsRow.holds Try.pinned (OpenSpec.ofChange inodeListsWrong)

/-- 'marllaw05.InodePointers': WHATEVER THE INPUT: true; the input reads as it did. -/
def inodePointersSpec : ChangeSpec := { name := "inodePointers", fn := fun _ => fun
  | [d1, d2] => { results := [.lit (.bool true)], args := [d1, d2] }
  | _ => none }
def inodePointersRow : OpenClaim := { program := "ytbceejcmjklklaa", sum := "7036cca879ee53af30a52dc26931cd566f6f38d70dee356f6ab7bf33417ebfca", func := "marl/marllaw05.InodePointers", spec := "inodePointers", apart := false }
def InodePointersSaid : Prop := inodePointersRow.holds Try.pinned (OpenSpec.ofChange inodePointersSpec)

/-- ITS FALSE NEIGHBOUR: 'it returns false'. Refute it at one input. -/
def inodePointersWrong : ChangeSpec := { name := "inodePointers", fn := fun _ => fun
  | [d1, d2] => { results := [.lit (.bool false)], args := [d1, d2] }
  | _ => none }
def InodePointersWrongFalsely : Prop := inodePointersRow.holds Try.pinned (OpenSpec.ofChange inodePointersWrong)

/-- 'marllaw05.InodeWrites': WHATEVER THE INPUT: true; the input reads as it did. -/
def inodeWritesSpec : ChangeSpec := { name := "inodeWrites", fn := fun _ => fun
  | [d] => { results := [.lit (.bool true)], args := [d] }
  | _ => none }
def inodeWritesRow : OpenClaim := { program := "ytbceejcmjklklaa", sum := "7036cca879ee53af30a52dc26931cd566f6f38d70dee356f6ab7bf33417ebfca", func := "marl/marllaw05.InodeWrites", spec := "inodeWrites", apart := false }
def InodeWritesSaid : Prop := inodeWritesRow.holds Try.pinned (OpenSpec.ofChange inodeWritesSpec)

/-- ITS FALSE NEIGHBOUR: 'it returns false'. Refute it at one input. -/
def inodeWritesWrong : ChangeSpec := { name := "inodeWrites", fn := fun _ => fun
  | [d] => { results := [.lit (.bool false)], args := [d] }
  | _ => none }
def InodeWritesWrongFalsely : Prop := inodeWritesRow.holds Try.pinned (OpenSpec.ofChange inodeWritesWrong)

/-- 'marllaw05.InodeReads': WHATEVER THE INPUT: true; the input reads as it did. -/
def inodeReadsSpec : ChangeSpec := { name := "inodeReads", fn := fun _ => fun
  | [d] => { results := [.lit (.bool true)], args := [d] }
  | _ => none }
def inodeReadsRow : OpenClaim := { program := "ytbceejcmjklklaa", sum := "7036cca879ee53af30a52dc26931cd566f6f38d70dee356f6ab7bf33417ebfca", func := "marl/marllaw05.InodeReads", spec := "inodeReads", apart := false }
def InodeReadsSaid : Prop := inodeReadsRow.holds Try.pinned (OpenSpec.ofChange inodeReadsSpec)

/-- ITS FALSE NEIGHBOUR: 'it returns false'. Refute it at one input. -/
def inodeReadsWrong : ChangeSpec := { name := "inodeReads", fn := fun _ => fun
  | [d] => { results := [.lit (.bool false)], args := [d] }
  | _ => none }
def InodeReadsWrongFalsely : Prop := inodeReadsRow.holds Try.pinned (OpenSpec.ofChange inodeReadsWrong)

/-- 'marllaw05.InodeSealed': WHATEVER THE INPUT: true; the input reads as it did. -/
def inodeSealedSpec : ChangeSpec := { name := "inodeSealed", fn := fun _ => fun
  | [d1, d2] => { results := [.lit (.bool true)], args := [d1, d2] }
  | _ => none }
def inodeSealedRow : OpenClaim := { program := "ytbceejcmjklklaa", sum := "7036cca879ee53af30a52dc26931cd566f6f38d70dee356f6ab7bf33417ebfca", func := "marl/marllaw05.InodeSealed", spec := "inodeSealed", apart := false }
def InodeSealedSaid : Prop := inodeSealedRow.holds Try.pinned (OpenSpec.ofChange inodeSealedSpec)

/-- ITS FALSE NEIGHBOUR: 'it returns false'. Refute it at one input. -/
def inodeSealedWrong : ChangeSpec := { name := "inodeSealed", fn := fun _ => fun
  | [d1, d2] => { results := [.lit (.bool false)], args := [d1, d2] }
  | _ => none }
def InodeSealedWrongFalsely : Prop := inodeSealedRow.holds Try.pinned (OpenSpec.ofChange inodeSealedWrong)

/- THE SECOND FORM. 'bulk': how many values and letters a reading holds, each counted each time it is reached (what is shared counts as often as it is met; a slice's spare places count too). A statement '..UptoSaid' is the law's where the arguments, and the package variables that the reading takes, are together of bulk at most 1048576: NARROWER than '..Said'. Prove '..Said' where nothing that the law and all that it calls make is longer than what came in: it says more and counts as full. Else prove '..UptoSaid'. A law counts once. -/
mutual
def uptoBulk {H : Type} : DataW H → Nat
  | .lit (.string bytes) => bytes.length + 1
  | .lit _ => 1
  | .nil => 1
  | .ptr d => uptoBulk d + 1
  | .slice elems spare => uptoBulkAll elems + uptoBulkAll spare + 1
  | .agg parts => uptoBulkAll parts + 1
  | .iface _ d => uptoBulk d + 1
  | .map entries => uptoBulkEntries entries + 1
  | .held _ => 1
def uptoBulkAll {H : Type} : List (DataW H) → Nat
  | [] => 0
  | d :: r => uptoBulk d + uptoBulkAll r
def uptoBulkEntries {H : Type} : List (Lit × DataW H) → Nat
  | [] => 0
  | x :: r => uptoBulkEntry x + uptoBulkEntries r
def uptoBulkEntry {H : Type} : Lit × DataW H → Nat
  | (.string bytes, d) => bytes.length + uptoBulk d + 1
  | (_, d) => uptoBulk d + 1
 end
def uptoSmall : (H : Type) → List (DataW H) → Bool := fun _ ds => decide (uptoBulkAll ds ≤ 1048576)
def OpenSpec.upto (s : _root_.Go.ChangeSpec) : _root_.Go.OpenSpec := { _root_.Go.OpenSpec.ofChange s with cond := some uptoSmall }

/-- 'marllaw05.InodeBlocks', WHERE WHAT IT READS IS OF BULK AT MOST 1048576: true; the input reads as it did. -/
def inodeBlocksUptoRow : OpenClaim := { program := "ytbceejcmjklklaa", sum := "7036cca879ee53af30a52dc26931cd566f6f38d70dee356f6ab7bf33417ebfca", func := "marl/marllaw05.InodeBlocks", spec := "inodeBlocks", apart := false, narrowed := true }
def InodeBlocksUptoSaid : Prop := inodeBlocksUptoRow.holds Try.pinned (OpenSpec.upto inodeBlocksSpec)

/-- 'marllaw05.InodeOne', WHERE WHAT IT READS IS OF BULK AT MOST 1048576: true; the input reads as it did. -/
def inodeOneUptoRow : OpenClaim := { program := "ytbceejcmjklklaa", sum := "7036cca879ee53af30a52dc26931cd566f6f38d70dee356f6ab7bf33417ebfca", func := "marl/marllaw05.InodeOne", spec := "inodeOne", apart := false, narrowed := true }
def InodeOneUptoSaid : Prop := inodeOneUptoRow.holds Try.pinned (OpenSpec.upto inodeOneSpec)

/-- 'marllaw05.InodeLists', WHERE WHAT IT READS IS OF BULK AT MOST 1048576: true; the input reads as it did. -/
def inodeListsUptoRow : OpenClaim := { program := "ytbceejcmjklklaa", sum := "7036cca879ee53af30a52dc26931cd566f6f38d70dee356f6ab7bf33417ebfca", func := "marl/marllaw05.InodeLists", spec := "inodeLists", apart := false, narrowed := true }
def InodeListsUptoSaid : Prop := inodeListsUptoRow.holds Try.pinned (OpenSpec.upto inodeListsSpec)

/-- 'marllaw05.InodePointers', WHERE WHAT IT READS IS OF BULK AT MOST 1048576: true; the input reads as it did. -/
def inodePointersUptoRow : OpenClaim := { program := "ytbceejcmjklklaa", sum := "7036cca879ee53af30a52dc26931cd566f6f38d70dee356f6ab7bf33417ebfca", func := "marl/marllaw05.InodePointers", spec := "inodePointers", apart := false, narrowed := true }
def InodePointersUptoSaid : Prop := inodePointersUptoRow.holds Try.pinned (OpenSpec.upto inodePointersSpec)

/-- 'marllaw05.InodeWrites', WHERE WHAT IT READS IS OF BULK AT MOST 1048576: true; the input reads as it did. -/
def inodeWritesUptoRow : OpenClaim := { program := "ytbceejcmjklklaa", sum := "7036cca879ee53af30a52dc26931cd566f6f38d70dee356f6ab7bf33417ebfca", func := "marl/marllaw05.InodeWrites", spec := "inodeWrites", apart := false, narrowed := true }
def InodeWritesUptoSaid : Prop := inodeWritesUptoRow.holds Try.pinned (OpenSpec.upto inodeWritesSpec)

/-- 'marllaw05.InodeReads', WHERE WHAT IT READS IS OF BULK AT MOST 1048576: true; the input reads as it did. -/
def inodeReadsUptoRow : OpenClaim := { program := "ytbceejcmjklklaa", sum := "7036cca879ee53af30a52dc26931cd566f6f38d70dee356f6ab7bf33417ebfca", func := "marl/marllaw05.InodeReads", spec := "inodeReads", apart := false, narrowed := true }
def InodeReadsUptoSaid : Prop := inodeReadsUptoRow.holds Try.pinned (OpenSpec.upto inodeReadsSpec)

/-- 'marllaw05.InodeSealed', WHERE WHAT IT READS IS OF BULK AT MOST 1048576: true; the input reads as it did. -/
def inodeSealedUptoRow : OpenClaim := { program := "ytbceejcmjklklaa", sum := "7036cca879ee53af30a52dc26931cd566f6f38d70dee356f6ab7bf33417ebfca", func := "marl/marllaw05.InodeSealed", spec := "inodeSealed", apart := false, narrowed := true }
def InodeSealedUptoSaid : Prop := inodeSealedUptoRow.holds Try.pinned (OpenSpec.upto inodeSealedSpec)

end Rows
end Go.Proofs.Ytbceejcmjklklaa
