/- What a disk is, in plain lists. No program in sight. -/
import Derived.Test.YtfaingklglelnaaFlat
namespace Go.Proofs.Ytfaingklglelnaa
open Go.RowKit

/-- A block as cells. -/
def blkC (b : List UInt8) : List Value := u8s b
/-- A write of the queue as cells. -/
def wrC (x : Nat × List UInt8) : List Value := .int .i64 (x.1 : Int) :: u8s x.2
/-- A disk: the blocks that are sure, the queue, the steps, those left; the room of the sure blocks' row, and what lies in it behind them. -/
structure Dsk where
  sure : List (List UInt8)
  queue : List (Nat × List UInt8)
  steps : Nat
  left : Int
  cap : Nat
  pad : Array Value
/-- A disk whose blocks are of 64 bytes, and whose queue lies within it. -/
structure Dsk.Ok (D : Dsk) : Prop where
  b : ∀ x ∈ D.sure, x.length = 64
  q : ∀ x ∈ D.queue, x.2.length = 64 ∧ x.1 < D.sure.length
  n : D.sure.length ≤ 4096
  l : -1 ≤ D.left ∧ D.left ≤ 9223372036854775807
  s : D.steps ≤ 1000000
  qn : D.queue.length ≤ 1000000
/-- All its blocks' cells. -/
def sureC (l : List (List UInt8)) : Array Value := fl blkC l
/-- All its writes' cells. -/
def queueC (l : List (Nat × List UInt8)) : List Value := l.flatMap wrC
theorem queueC_len {l : List (Nat × List UInt8)} (h : ∀ x ∈ l, x.2.length = 64) : (queueC l).length = l.length * 65 := by
  induction l with
  | nil => rfl
  | cons x l ih =>
    have hx := h x (by simp)
    have := ih (fun y hy => h y (by simp [hy]))
    simp only [queueC, List.flatMap_cons, List.length_append, wrC, List.length_cons, u8s_length, hx, Nat.succ_mul] at this ⊢
    omega
/-- A disk in memory: block d its struct, block s its sure blocks, v the queue's slice. -/
structure DskM (td tb ti : TypeId) (w : World) (base d s : Nat) (v : Value) (D : Dsk) : Prop where
  hd : Blk w d td #[.slice (some ⟨s, 0, none⟩) D.sure.length D.cap, v, .int .i64 (D.steps : Int), .int .i64 D.left]
  hs : Blk w s tb (sureC D.sure ++ D.pad)
  hq : w.ownsRow base ti 65 v D.queue.length (queueC D.queue)
  ne : d ≠ s
  nq : ∀ g, v.ownBlock = some g → g ≠ d ∧ g ≠ s
  db : base ≤ d
  sb : base ≤ s
  ok : D.Ok
end Go.Proofs.Ytfaingklglelnaa
