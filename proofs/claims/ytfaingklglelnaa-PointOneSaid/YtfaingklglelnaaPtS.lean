/- A point's block, in plain lists. No program in sight. -/
import Derived.Test.YtfaingklglelnaaLeS
namespace Go.Proofs.Ytfaingklglelnaa
open Go.RowKit

/-- Is it a point? -/
def PtP (e c n f : Int) : Prop := (0 ≤ e ∧ e < 65536) ∧ (0 ≤ c ∧ c < 65536) ∧ (0 ≤ n ∧ n < 4096) ∧ (0 ≤ f ∧ f < 4096)
instance (e c n f : Int) : Decidable (PtP e c n f) := by unfold PtP; infer_instance
abbrev ptV (e c n f : Int) : Value := .agg #[.int .i64 e, .int .i64 c, .int .i64 n, .int .i64 f]
/-- The words: 44 bytes. -/
def ptW (n f : Nat) : List UInt8 := leN n 2 ++ leN f 2 ++ List.replicate 40 0
theorem ptW_length (n f : Nat) : (ptW n f).length = 44 := by simp [ptW, leN_length]
def ptHead (e c s : Nat) : List UInt8 := leN e 2 ++ leN c 2 ++ [UInt8.ofNat s]
theorem ptHead_length (e c s : Nat) : (ptHead e c s).length = 5 := by simp [ptHead, leN_length]
def ptSec (e c n f s : Nat) : List UInt8 := ptHead e c s ++ ((ptW n f).drop (11 * s)).take 11
theorem ptSec_length {e c n f s : Nat} (hs : s < 4) : (ptSec e c n f s).length = 16 := by
  unfold ptSec
  rw [List.length_append, ptHead_length, List.length_take, List.length_drop, ptW_length]
  omega
/-- The first k sectors. -/
def ptUp (e c n f k : Nat) : List UInt8 := (List.range k).flatMap (ptSec e c n f)
theorem ptUp_succ (e c n f k : Nat) : ptUp e c n f (k + 1) = ptUp e c n f k ++ (ptHead e c k ++ ((ptW n f).drop (11 * k)).take 11) := by
  simp [ptUp, ptSec, List.range_succ, List.flatMap_append]
theorem ptUp_length {e c n f : Nat} : ∀ {k : Nat}, k ≤ 4 → (ptUp e c n f k).length = 16 * k
  | 0, _ => rfl
  | k + 1, h => by
    rw [ptUp_succ, List.length_append, ptUp_length (by omega), show (ptHead e c k ++ ((ptW n f).drop (11 * k)).take 11).length = 16 from ptSec_length (by omega)]
    omega
/-- A point's block. -/
def ptBytes (e c n f : Nat) : List UInt8 := ptUp e c n f 4
theorem ptBytes_length (e c n f : Nat) : (ptBytes e c n f).length = 64 := ptUp_length (by omega)
end Go.Proofs.Ytfaingklglelnaa
