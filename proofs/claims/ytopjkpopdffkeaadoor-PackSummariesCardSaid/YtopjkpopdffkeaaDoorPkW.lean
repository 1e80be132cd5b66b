/- The walks over part, Blocks of a piece. -/
import Derived.Test.YtopjkpopdffkeaaDoorSumSzW
import Derived.Laws.Rows
set_option linter.unusedVariables false
set_option linter.unusedSimpArgs false
namespace Go.Proofs.YtopjkpopdffkeaaDoor
open Go.RowKit
attribute [local go_sem ↓] Go.wp_at_zero Go.wp_at_succ

/-- A piece. -/
structure PcP where
  nw : Bool
  fs : List FI
  is : List Int
deriving DecidableEq
def pcC (b : Bool) (A1 : Option Addr) (n1 c1 : Nat) (A2 : Option Addr) (n2 c2 : Nat) : Array Value := #[.bool b, .slice A1 n1 c1, .slice A2 n2 c2]
set_option maxHeartbeats 1000000 in
theorem part_any (b : Bool) (A1 A2 : Option Addr) (n1 c1 n2 c2 : Nat) (w : World) : Calls Tryd.prog 16 #[.agg (pcC b A1 n1 c1 A2 n2 c2)] w fun e w' => e = .returned (.agg (partC 0 0 0 0 0 A1 n1 c1 A2 n2 c2)) ∧ Below w.heap.size w w' := by
  unfold pcC partC
  go_enter Tryd.func16, Tryd.ntmps16
  go_wp2_with fail
  refine bodyPost_ret (results_cell_row (g := w.heap.size + 1) (cs := #[.int .i64 0, .int .i64 0, .int .i64 0, .int .i64 0, .int .i64 0, .slice A1 n1 c1, .slice A2 n2 c2]) (t := 32) (fr := (0, 0)) rfl _ _ (hp := rfl) (hg := by have := Blk.new (w.alloc (.cells #[.bool b, .slice A1 n1 c1, .slice A2 n2 c2] 37)) 32 #[.int .i64 0, .int .i64 0, .int .i64 0, .int .i64 0, .int .i64 0, .slice A1 n1 c1, .slice A2 n2 c2]; simpa [Blk] using this) (hu := Tryd.underlying32) (hd := rfl) (hi := by kernel_rfl)) rfl ?_
  exact ⟨rfl, ((Below.refl _ _).alloc (Nat.le_refl _) _).alloc (by simp) _⟩
theorem pblocks_any (b : Bool) (A1 A2 : Option Addr) (n1 c1 n2 c2 lo base : Nat) (fs : List FI) (w : World) (h : FisAt lo base w A1 n1 fs) (hn : n1 ≤ 100000) (hn2 : n2 ≤ 100000) (hl : lsN fs ≤ 100000) :
    Calls Tryd.prog 9 #[.agg (pcC b A1 n1 c1 A2 n2 c2)] w fun r w' => r = .returned (.int .i64 ((2 + n2 + lsN fs : Nat) : Int)) ∧ Below w.heap.size w w' := by
  have H := hide h
  clear h
  unfold pcC
  go_enter Tryd.func9, Tryd.ntmps9
  go_wp2_with fail
  refine (part_any b A1 A2 n1 c1 n2 c2 _).mono ?_
  rintro e w1 ⟨rfl, hb⟩
  have B1 := hide (((Below.refl w.heap.size w).alloc (Nat.le_refl _) (.cells #[.bool b, .slice A1 n1 c1, .slice A2 n2 c2] 37)).trans (hb.mono (by simp)))
  clear hb
  go_wp2_with fail
  refine (sblocks_any 0 0 0 0 0 A1 A2 n1 c1 n2 c2 lo base fs _ (H.out.below B1.out) hn hn2 hl).mono ?_
  rintro e w2 ⟨rfl, hb⟩
  have B2 := hide (B1.out.trans (hb.mono B1.out.size))
  clear hb
  go_wp2_with fail
  go_ret
  exact ⟨rfl, B2.out⟩
end Go.Proofs.YtopjkpopdffkeaaDoor
