/- Rows of integers of the call's own; what append leaves of other blocks. -/
import Derived.Test.YtopjkpopdffkeaaDoorRowG
import Derived.Deep.RegionWith
import Derived.Deep.RegionHeld3
import Derived.Deep.MidRow
import Derived.Great.FillDense
import Derived.Great.BuildSlice
set_option linter.unusedVariables false
set_option linter.unusedSimpArgs false
namespace Go.Proofs.YtopjkpopdffkeaaDoor
open Go.RowKit

/-- Integers as cells. -/
def intC (l : List Int) : List Value := l.map (Value.int .i64)
theorem intC_app (l : List Int) (x : Int) : intC l ++ [.int .i64 x] = intC (l ++ [x]) := by simp [intC]
theorem intC_apps (l m : List Int) : intC l ++ intC m = intC (l ++ m) := by simp [intC]
theorem intC_one (l : List Int) : ∀ u ∈ intC l, u.oneCell' = true := fun u hu => by
  obtain ⟨x, _, rfl⟩ := List.mem_map.1 hu
  rfl
theorem intC_len (l : List Int) : (intC l).length = l.length := by simp [intC]
theorem etyJ : Ety Tryd.prog 23 3 (.int .i64 0) 8 := Ety.mk' Tryd.underlying23 (by kernel_rfl) (by rfl) (by decide)
theorem int_slice (w : World) (x : Int) : (Instr.buildSlice 23 1 #[(0, .int .i64 x)]).run Tryd.prog w = .ok (.slice (some ⟨w.heap.size, 0, none⟩) 1 1) (w.alloc (.cells #[.int .i64 x] 3)) := by
  have hz : (Tryd.prog.info? 3).map (fun i => (i.zero, i.size, i.bytes)) = some (some (.int .i64 0), 1, 8) := by kernel_rfl
  obtain ⟨ie, hi, h1, h2, h3⟩ := info_parts hz
  have hfill := Great.fill_whole (s := 1) (by omega) [Value.int .i64 x] ((Array.range (1 * ie.size)).map ((Value.int .i64 0).cells[· % (Value.int .i64 0).cells.size]!)) (fun v hv => by
    rw [List.mem_singleton] at hv
    subst hv
    simp [Value.cells]) (by simp [h2])
  refine run_buildSlice w 23 3 1 _ #[.int .i64 x] ie _ Tryd.underlying23 hi h1 (by rw [h2]; omega) (by rw [h2]; omega) ?_
  rw [h2] at hfill ⊢
  simpa [Value.cells] using hfill
/-- A row of integers of the call's own. -/
abbrev OwnI (w : World) (base : Nat) (A : Option Addr) (c : Nat) (l : List Int) : Prop := w.ownsRow base 3 1 (.slice A l.length c) l.length (intC l)
theorem OwnI.nil {w : World} {base : Nat} : OwnI w base none 0 [] := World.ownsRow_nil _ _ _ _
theorem OwnI.lt {w : World} {base c : Nat} {A : Option Addr} {l : List Int} (h : OwnI w base A c l) : ∀ g, (Value.slice A 0 0).ownBlock = some g → base ≤ g ∧ g < w.heap.size := fun g hg => World.ownsRow.lt h g (by rw [← hg]; exact ob' _ _ _)
theorem OwnI.at {w : World} {base c : Nat} {A : Option Addr} {l : List Int} (h : OwnI w base A c l) {k : Nat} (hk : k < l.length) : ∃ g x, A = some ⟨g, 0, none⟩ ∧ base ≤ g ∧ g < w.heap.size ∧ l[k]? = some x ∧ w.cell? ⟨g, k, none⟩ = some (.int .i64 x) := by
  obtain ⟨g, u, hA, h1, h2, h3, h4, -, -⟩ := own_set1 h hk
  have hx : l[k]? = some l[k] := List.getElem?_eq_getElem hk
  refine ⟨g, l[k], hA, h1, h2, hx, ?_⟩
  rw [intC, List.getElem?_map, hx] at h3
  simp only [Option.map_some, Option.some.injEq] at h3
  rw [h4, h3]
/-- One integer of a row. -/
theorem one_int (w : World) (x : Int) : Sl (w.alloc (.cells #[.int .i64 x] 3)) (w.heap.size + 1) (some ⟨w.heap.size, 0, none⟩) 1 [.int .i64 x] := by
  refine ⟨rfl, fun i u hu => ⟨_, rfl, by simp, ?_⟩⟩
  rw [Addr.add_mid, Nat.zero_add, (Blk.new w _ _).cell]
  simpa using hu
end Go.Proofs.YtopjkpopdffkeaaDoor
