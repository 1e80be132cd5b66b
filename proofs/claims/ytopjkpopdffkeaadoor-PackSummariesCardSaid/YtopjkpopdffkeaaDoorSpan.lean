/- The table marl/index.span: what the row's condition says of its cells; a world for the witness. -/
import Derived.Test.YtopjkpopdffkeaaDoorRows
import Derived.Test.YtopjkpopdffkeaaDoorMem
import Derived.Test.YtopjkpopdffkeaaDoorBlk
import Derived.Deep.DeepHandedRow
import Derived.Lib.LaidTab
set_option linter.unusedVariables false
set_option linter.unusedSimpArgs false
namespace Go.Proofs.YtopjkpopdffkeaaDoor
open Go.RowKit Go.ChangeShapes Go.WideShapes Go.ChangeAt

/-- The table's name, as the given rows tell it. -/
abbrev spanName : String := Rows.packSummariesRow.named.headD ""
theorem gSpan : Tryd.prog.globalNamed spanName = some 0 := by kernel_rfl
theorem gSpanType : (Tryd.prog.globals[0]?).map (·.type) = some 60 := by kernel_rfl
theorem cellsSpan : Tryd.prog.cellsOf 60 = 5 := by kernel_rfl
theorem cellsInt : Tryd.prog.cellsOf 3 = 1 := by kernel_rfl
/-- What the table holds. -/
structure SpanAt (w : World) : Prop where
  c0 : w.cell? ⟨0, 0, none⟩ = some (.int .i64 0)
  c1 : w.cell? ⟨0, 1, none⟩ = some (.int .i64 6)
  c2 : w.cell? ⟨0, 2, none⟩ = some (.int .i64 22)
  c3 : w.cell? ⟨0, 3, none⟩ = some (.int .i64 278)
  c4 : w.cell? ⟨0, 4, none⟩ = some (.int .i64 1073741824)
theorem SpanAt.lt {w : World} (h : SpanAt w) : 0 < w.heap.size := by
  rcases Nat.lt_or_ge 0 w.heap.size with hl | hg
  · exact hl
  · have := h.c0
    unfold World.cell? at this
    rw [Array.getElem?_eq_none hg] at this
    cases this
theorem SpanAt.below {w w' : World} {B : Nat} (h : SpanAt w) (hb : Below B w w') (hB : 0 < B) : SpanAt w' :=
  ⟨(hb.cell (p := ⟨_, 0, none⟩) hB).trans h.c0, (hb.cell (p := ⟨_, 1, none⟩) hB).trans h.c1, (hb.cell (p := ⟨_, 2, none⟩) hB).trans h.c2, (hb.cell (p := ⟨_, 3, none⟩) hB).trans h.c3, (hb.cell (p := ⟨_, 4, none⟩) hB).trans h.c4⟩
theorem SpanAt.bel {w w' : World} (h : SpanAt w) (hb : Below w.heap.size w w') : SpanAt w' := h.below hb h.lt
theorem SpanAt.drew {w : World} (h : SpanAt w) : SpanAt w.drew := ⟨h.c0, h.c1, h.c2, h.c3, h.c4⟩
theorem SpanAt.drewN {w : World} (h : SpanAt w) (n : Nat) : SpanAt (w.drewN n) := ⟨h.c0, h.c1, h.c2, h.c3, h.c4⟩
theorem SpanAt.alloc {w : World} (h : SpanAt w) (o : Obj) : SpanAt (w.alloc o) := h.bel ((Below.refl _ _).alloc (Nat.le_refl _) o)

theorem span_of_laid {W : World} (h : laidMetH Tryd.prog [(spanName, Rows.laid_marl_index_span)] W) : SpanAt W := by
  have ht : Lib.TabIs Tryd.prog W spanName .i64 [0, 6, 22, 278, 1073741824] :=
    Lib.tabIs_of_head (rest := []) gSpan gSpanType Tryd.underlying60 Tryd.underlying3 cellsInt cellsSpan h
  exact ⟨ht.cell gSpan 0 (by decide), ht.cell gSpan 1 (by decide), ht.cell gSpan 2 (by decide), ht.cell gSpan 3 (by decide), ht.cell gSpan 4 (by decide)⟩

/-- A world for the witness: the settled one, the table holding what its initialiser lays. -/
noncomputable def laidWorld (os : Os) : World :=
  { World.holding Tryd.prog os ⟨#[], #[], []⟩ with heap := (World.holding Tryd.prog os ⟨#[], #[], []⟩).heap.modify 0 fun
      | .cells _ t frozen => .cells #[.int .i64 0, .int .i64 6, .int .i64 22, .int .i64 278, .int .i64 1073741824] t frozen
      | o => o }
end Go.Proofs.YtopjkpopdffkeaaDoor
