/- Rows of numbers, of files, that the text writes out. -/
import Derived.Test.YtopjkpopdffkeaaDoorPkPlanW
set_option linter.unusedVariables false
set_option linter.unusedSimpArgs false
namespace Go.Proofs.YtopjkpopdffkeaaDoor
open Go.RowKit

theorem rw_of_blk {w : World} {b base n k : Nat} {t : TypeId} {xs : List Value} (h : Blk w b t xs.toArray) (hl : xs.length = n * k) : RwAt 0 base t k w (some ⟨b, 0, none⟩) n xs :=
  ⟨hl, fun j u hu => ⟨b, 0, rfl, ⟨Nat.zero_le _, h.lt, .inr ⟨_, h⟩⟩, by rw [Nat.zero_add, h.cell]; simpa using hu⟩⟩
theorem int_lit3 (w : World) (x y z : Int) : (Instr.buildSlice 23 3 #[(0, .int .i64 x), (1, .int .i64 y), (2, .int .i64 z)]).run Tryd.prog w = .ok (.slice (some ⟨w.heap.size, 0, none⟩) 3 3) (w.alloc (.cells #[.int .i64 x, .int .i64 y, .int .i64 z] 3)) := by
  have hz : (Tryd.prog.info? 3).map (fun i => (i.zero, i.size, i.bytes)) = some (some (.int .i64 0), 1, 8) := by kernel_rfl
  obtain ⟨ie, hi, h1, h2, h3⟩ := info_parts hz
  have hfill := Great.fill_whole (s := 1) (by omega) [Value.int .i64 x, Value.int .i64 y, Value.int .i64 z] ((Array.range (3 * ie.size)).map ((Value.int .i64 0).cells[· % (Value.int .i64 0).cells.size]!)) (fun v hv => by
    simp only [List.mem_cons, List.not_mem_nil, or_false] at hv
    rcases hv with rfl | rfl | rfl <;> simp [Value.cells]) (by simp [h2])
  refine run_buildSlice w 23 3 3 _ #[.int .i64 x, .int .i64 y, .int .i64 z] ie _ Tryd.underlying23 hi h1 (by rw [h2]; omega) (by rw [h2]; omega) ?_
  rw [h2] at hfill ⊢
  simpa [Value.cells] using hfill
theorem int_lit1 (w : World) (x : Int) : (Instr.buildSlice 23 1 #[(0, .int .i64 x)]).run Tryd.prog w = .ok (.slice (some ⟨w.heap.size, 0, none⟩) 1 1) (w.alloc (.cells #[.int .i64 x] 3)) := by
  have hz : (Tryd.prog.info? 3).map (fun i => (i.zero, i.size, i.bytes)) = some (some (.int .i64 0), 1, 8) := by kernel_rfl
  obtain ⟨ie, hi, h1, h2, h3⟩ := info_parts hz
  have hfill := Great.fill_whole (s := 1) (by omega) [Value.int .i64 x] ((Array.range (1 * ie.size)).map ((Value.int .i64 0).cells[· % (Value.int .i64 0).cells.size]!)) (fun v hv => by
    rw [List.mem_singleton] at hv
    subst hv
    simp [Value.cells]) (by simp [h2])
  refine run_buildSlice w 23 3 1 _ #[.int .i64 x] ie _ Tryd.underlying23 hi h1 (by rw [h2]; omega) (by rw [h2]; omega) ?_
  rw [h2] at hfill ⊢
  simpa [Value.cells] using hfill
theorem one_file (w : World) (xs : Array Value) (h : xs.size = 3) : (Instr.buildSlice 22 1 #[(0, .agg xs)]).run Tryd.prog w = .ok (.slice (some ⟨w.heap.size, 0, none⟩) 1 1) (w.alloc (.cells xs 28)) := one_slice etyF w xs h (by decide)
/-- One file, as a row. -/
theorem fis_one {w : World} {b base : Nat} {f : FI} {A : Option Addr} {c : Nat} (h : Blk w b 28 (fiV f A c).toArray) (hi : IntsAt 0 base w A f.ls.length f.ls) : FisAt 0 base w (some ⟨b, 0, none⟩) 1 [f] := by
  refine ⟨[fiV f A c], rfl, rfl, ?_, fun j x g hx hg => ?_⟩
  · have := rw_of_blk (n := 1) (k := 3) (base := base) h rfl
    simpa using this
  · cases j with
    | zero =>
      simp only [List.getElem?_cons_zero, Option.some.injEq] at hx hg
      subst hx hg
      exact ⟨A, c, rfl, hi⟩
    | succ j => simp at hx
end Go.Proofs.YtopjkpopdffkeaaDoor
