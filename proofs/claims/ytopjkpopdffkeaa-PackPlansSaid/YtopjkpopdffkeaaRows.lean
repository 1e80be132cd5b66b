/-
  No cell of these rows narrows 'for every input' (looked for: loops, veiled, ifaces, maps, wideKeys, modest, calm, conditions, laid).
  DERIVED. THE GIVEN ROWS OF THIS SEAT. 4 by the template 'for every input the law returns true; each argument reads behind the call as it read before'; 0 by the template 'total and deterministic' (their statements: YtopjkpopdffkeaaTotals.lean).
  GIVEN WITH THE SEED: the statements are not yours to turn. If you find one false, say at which input.
  Laid BY PROGRAM, IN A SANDBOX (cutbox-rows.mjs): the forced cells as the released guide's own fill.sh prints them over the translation f8aa77ec8fe11be1… (all of the seat's roots in one cut). By AI agents, Wed Nov 11 2026. No macro, syntax, notation, axiom, sorry.
-/
import Derived.Test.YtopjkpopdffkeaaChecked
import GoSem.Claim
import GoSem.ClaimJoined
import GoSem.ClaimMapViews
import Derived.JoinedTies
import Derived.KernelRfl
namespace Go.Proofs.Ytopjkpopdffkeaa
/- THE CELL 'sum', in the pinned program and in every row, IS THE sha256 OF THE DUMP (.gsa) THAT YtopjkpopdffkeaaProg.lean LOADS. Nothing in Lean hashes anything: it is a label: what it is worth is what the hold of that sum in a sandbox is worth. -/
noncomputable def Try.pinned : Pinned := { name := "ytopjkpopdffkeaa", sum := "f8aa77ec8fe11be15c0095cc8145159d49ef83606a16b405d46a59b145dec708", checked := Try.checked }
namespace Rows
def none {H : Type} : Left H := { results := [], args := [] }

/-- 'marllaw13.PackPlans': WHATEVER THE INPUT: true; the input reads as it did. -/
def packPlansSpec : ChangeSpec := { name := "packPlans", fn := fun _ => fun
  | [d1, d2, d3] => { results := [.lit (.bool true)], args := [d1, d2, d3] }
  | _ => none }
def packPlansRow : OpenClaim := { program := "ytopjkpopdffkeaa", sum := "f8aa77ec8fe11be15c0095cc8145159d49ef83606a16b405d46a59b145dec708", func := "marl/marllaw13.PackPlans", spec := "packPlans", unfollowed := true, recurses := true, apart := false }
def PackPlansSaid : Prop := packPlansRow.holds Try.pinned (OpenSpec.ofChange packPlansSpec)

/-- ITS FALSE NEIGHBOUR: 'it returns false'. Refute it at one input. -/
def packPlansWrong : ChangeSpec := { name := "packPlans", fn := fun _ => fun
  | [d1, d2, d3] => { results := [.lit (.bool false)], args := [d1, d2, d3] }
  | _ => none }
def PackPlansWrongFalsely : Prop := packPlansRow.holds Try.pinned (OpenSpec.ofChange packPlansWrong)

/-- 'marllaw13.PackAll': WHATEVER THE INPUT: true; the input reads as it did. -/
def packAllSpec : ChangeSpec := { name := "packAll", fn := fun _ => fun
  | [d1, d2, d3] => { results := [.lit (.bool true)], args := [d1, d2, d3] }
  | _ => none }
def packAllRow : OpenClaim := { program := "ytopjkpopdffkeaa", sum := "f8aa77ec8fe11be15c0095cc8145159d49ef83606a16b405d46a59b145dec708", func := "marl/marllaw13.PackAll", spec := "packAll", unfollowed := true, recurses := true, apart := false }
def PackAllSaid : Prop := packAllRow.holds Try.pinned (OpenSpec.ofChange packAllSpec)

/-- ITS FALSE NEIGHBOUR: 'it returns false'. Refute it at one input. -/
def packAllWrong : ChangeSpec := { name := "packAll", fn := fun _ => fun
  | [d1, d2, d3] => { results := [.lit (.bool false)], args := [d1, d2, d3] }
  | _ => none }
def PackAllWrongFalsely : Prop := packAllRow.holds Try.pinned (OpenSpec.ofChange packAllWrong)

/-- 'marllaw13.PackOne': WHATEVER THE INPUT: true; the input reads as it did. -/
def packOneSpec : ChangeSpec := { name := "packOne", fn := fun _ => fun
  | [d1, d2, d3] => { results := [.lit (.bool true)], args := [d1, d2, d3] }
  | _ => none }
def packOneRow : OpenClaim := { program := "ytopjkpopdffkeaa", sum := "f8aa77ec8fe11be15c0095cc8145159d49ef83606a16b405d46a59b145dec708", func := "marl/marllaw13.PackOne", spec := "packOne", unfollowed := true, recurses := true, apart := false }
def PackOneSaid : Prop := packOneRow.holds Try.pinned (OpenSpec.ofChange packOneSpec)

/-- ITS FALSE NEIGHBOUR: 'it returns false'. Refute it at one input. -/
def packOneWrong : ChangeSpec := { name := "packOne", fn := fun _ => fun
  | [d1, d2, d3] => { results := [.lit (.bool false)], args := [d1, d2, d3] }
  | _ => none }
def PackOneWrongFalsely : Prop := packOneRow.holds Try.pinned (OpenSpec.ofChange packOneWrong)

/-- 'marllaw13.PackTwice': WHATEVER THE INPUT: true; the input reads as it did. -/
def packTwiceSpec : ChangeSpec := { name := "packTwice", fn := fun _ => fun
  | [d1, d2, d3] => { results := [.lit (.bool true)], args := [d1, d2, d3] }
  | _ => none }
def packTwiceRow : OpenClaim := { program := "ytopjkpopdffkeaa", sum := "f8aa77ec8fe11be15c0095cc8145159d49ef83606a16b405d46a59b145dec708", func := "marl/marllaw13.PackTwice", spec := "packTwice", unfollowed := true, recurses := true, apart := false }
def PackTwiceSaid : Prop := packTwiceRow.holds Try.pinned (OpenSpec.ofChange packTwiceSpec)

/-- ITS FALSE NEIGHBOUR: 'it returns false'. Refute it at one input. -/
def packTwiceWrong : ChangeSpec := { name := "packTwice", fn := fun _ => fun
  | [d1, d2, d3] => { results := [.lit (.bool false)], args := [d1, d2, d3] }
  | _ => none }
def PackTwiceWrongFalsely : Prop := packTwiceRow.holds Try.pinned (OpenSpec.ofChange packTwiceWrong)

/- THE SECOND FORM. 'bulk': how many values and letters a reading holds, each counted each time it is reached (what is shared counts as often as it is met; a slice's spare places count too). A statement '..UptoSaid' is the law's where the arguments, and the package variables that the reading takes, are together of bulk at most 1048576: NARROWER than '..Said'. Prove '..Said' where nothing that the law and all that it calls make is longer than what came in: it says more and counts as full. Else prove '..UptoSaid'. A law counts once. -/
mutual
def uptoBulk {H : Type} : DataW H → Nat
  | .lit (.string bytes) => bytes.length + 1
  | .lit _ => 1
  | .nil => 1
  | .ptr d => uptoBulk d + 1
  | .slice elems spare => uptoBulkAll elems + uptoBulkAll spare + 1
  | .agg parts => uptoBulkAll parts + 1
  | .iface _ d => uptoBulk d + 1
  | .map entries => uptoBulkEntries entries + 1
  | .held _ => 1
def uptoBulkAll {H : Type} : List (DataW H) → Nat
  | [] => 0
  | d :: r => uptoBulk d + uptoBulkAll r
def uptoBulkEntries {H : Type} : List (Lit × DataW H) → Nat
  | [] => 0
  | x :: r => uptoBulkEntry x + uptoBulkEntries r
def uptoBulkEntry {H : Type} : Lit × DataW H → Nat
  | (.string bytes, d) => bytes.length + uptoBulk d + 1
  | (_, d) => uptoBulk d + 1
 end
def uptoSmall : (H : Type) → List (DataW H) → Bool := fun _ ds => decide (uptoBulkAll ds ≤ 1048576)
def OpenSpec.upto (s : _root_.Go.ChangeSpec) : _root_.Go.OpenSpec := { _root_.Go.OpenSpec.ofChange s with cond := some uptoSmall }

/-- 'marllaw13.PackPlans', WHERE WHAT IT READS IS OF BULK AT MOST 1048576: true; the input reads as it did. -/
def packPlansUptoRow : OpenClaim := { program := "ytopjkpopdffkeaa", sum := "f8aa77ec8fe11be15c0095cc8145159d49ef83606a16b405d46a59b145dec708", func := "marl/marllaw13.PackPlans", spec := "packPlans", unfollowed := true, recurses := true, apart := false, narrowed := true }
def PackPlansUptoSaid : Prop := packPlansUptoRow.holds Try.pinned (OpenSpec.upto packPlansSpec)

/-- 'marllaw13.PackAll', WHERE WHAT IT READS IS OF BULK AT MOST 1048576: true; the input reads as it did. -/
def packAllUptoRow : OpenClaim := { program := "ytopjkpopdffkeaa", sum := "f8aa77ec8fe11be15c0095cc8145159d49ef83606a16b405d46a59b145dec708", func := "marl/marllaw13.PackAll", spec := "packAll", unfollowed := true, recurses := true, apart := false, narrowed := true }
def PackAllUptoSaid : Prop := packAllUptoRow.holds Try.pinned (OpenSpec.upto packAllSpec)

/-- 'marllaw13.PackOne', WHERE WHAT IT READS IS OF BULK AT MOST 1048576: true; the input reads as it did. -/
def packOneUptoRow : OpenClaim := { program := "ytopjkpopdffkeaa", sum := "f8aa77ec8fe11be15c0095cc8145159d49ef83606a16b405d46a59b145dec708", func := "marl/marllaw13.PackOne", spec := "packOne", unfollowed := true, recurses := true, apart := false, narrowed := true }
def PackOneUptoSaid : Prop := packOneUptoRow.holds Try.pinned (OpenSpec.upto packOneSpec)

/-- 'marllaw13.PackTwice', WHERE WHAT IT READS IS OF BULK AT MOST 1048576: true; the input reads as it did. -/
def packTwiceUptoRow : OpenClaim := { program := "ytopjkpopdffkeaa", sum := "f8aa77ec8fe11be15c0095cc8145159d49ef83606a16b405d46a59b145dec708", func := "marl/marllaw13.PackTwice", spec := "packTwice", unfollowed := true, recurses := true, apart := false, narrowed := true }
def PackTwiceUptoSaid : Prop := packTwiceUptoRow.holds Try.pinned (OpenSpec.upto packTwiceSpec)

end Rows
end Go.Proofs.Ytopjkpopdffkeaa
