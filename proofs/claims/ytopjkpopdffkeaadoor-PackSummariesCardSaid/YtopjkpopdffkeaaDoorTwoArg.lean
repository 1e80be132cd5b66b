/- Two numbers as an argument. -/
import Derived.Test.YtopjkpopdffkeaaDoorRdMore
import Derived.Test.YtopjkpopdffkeaaDoorProg
set_option linter.unusedVariables false
set_option linter.unusedSimpArgs false
namespace Go.Proofs.YtopjkpopdffkeaaDoor
open Go.RowKit

set_option maxRecDepth 100000 in
theorem two_of_rdS {w : World} {v : Value} (h : Arg Tryd.prog w 24 v) : ∃ a0 a1 : Int, v = .agg #[.int .i64 a0, .int .i64 a1] := by
  have hcu : Tryd.prog.cellsOf 3 = 1 := by kernel_rfl
  have hc2 : Tryd.prog.cellsOf 24 = 2 := by kernel_rfl
  obtain ⟨⟨l⟩, rfl, hh⟩ := arg_agg h (.inr ⟨_, _, Tryd.underlying24⟩)
  have hl := (rd_array Tryd.underlying24 hh).1
  rw [hc2] at hl
  match l, hl with
  | [c0, c1], _ =>
    obtain ⟨a, rfl, _⟩ := rd_arr_int Tryd.underlying24 hh hcu Tryd.underlying3 0 (by omega) rfl
    obtain ⟨b, rfl, _⟩ := rd_arr_int Tryd.underlying24 hh hcu Tryd.underlying3 1 (by omega) rfl
    exact ⟨a, b, rfl⟩
end Go.Proofs.YtopjkpopdffkeaaDoor
