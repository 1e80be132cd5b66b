/- A point as an argument; lists of pairs of numbers. -/
import Derived.Test.YtfaingklglelnaaPt4
import Derived.Test.YtfaingklglelnaaRd
namespace Go.Proofs.Ytfaingklglelnaa
open Go.RowKit

set_option maxRecDepth 100000 in
theorem pt_arg {w : World} {v : Value} (ha : Arg Try.prog w 23 v) : ∃ e c n f, v = ptV e c n f := by
  have hc : Try.prog.cellsOf 3 = 1 := by kernel_rfl
  have hc4 : Try.prog.cellsOf 23 = 4 := by kernel_rfl
  obtain ⟨⟨l⟩, rfl, h⟩ := arg_agg ha (.inl ⟨_, Try.underlying23⟩)
  have hl := rd_len Try.underlying23 h
  rw [hc4] at hl
  match l, hl with
  | [c0, c1, c2, c3], _ =>
    obtain ⟨a, rfl, _⟩ := rd_fld_int Try.underlying23 h 0 (u := 3) (o := 0) rfl hc Try.underlying3 rfl
    obtain ⟨b, rfl, _⟩ := rd_fld_int Try.underlying23 h 1 (u := 3) (o := 1) rfl hc Try.underlying3 rfl
    obtain ⟨s, rfl, _⟩ := rd_fld_int Try.underlying23 h 2 (u := 3) (o := 2) rfl hc Try.underlying3 rfl
    obtain ⟨i, rfl, _⟩ := rd_fld_int Try.underlying23 h 3 (u := 3) (o := 3) rfl hc Try.underlying3 rfl
    exact ⟨a, b, s, i, rfl⟩
set_option maxRecDepth 100000 in
theorem int_argP {w : World} {v : Value} (h : Arg Try.prog w 3 v) : ∃ n, v = .int .i64 n ∧ -9223372036854775808 ≤ n ∧ n ≤ 9223372036854775807 := by
  obtain ⟨n, hn, hw⟩ := rd_int Try.underlying3 (arg_one h Try.underlying3 (fun _ => by simp) (fun _ _ => by simp))
  simp at hn
  have := wf_bd_i64 hw
  exact ⟨n, hn, this.1, this.2⟩
end Go.Proofs.Ytfaingklglelnaa
