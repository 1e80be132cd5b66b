/- An inode as an argument. -/
import Derived.Test.YtbceejcmjklklaaInoW
import Derived.Test.YtbceejcmjklklaaRdMore
namespace Go.Proofs.Ytbceejcmjklklaa
open Go.RowKit

theorem ino_arg {w : World} {x : Value} (hx : Arg Try.prog w 28 x) : ∃ (a v k l s : Int) (p0 p1 p2 p3 p4 p5 p6 p7 p8 : Nat), x = inoV a v k l s p0 p1 p2 p3 p4 p5 p6 p7 p8 ∧ p0 < 4294967296 ∧ p1 < 4294967296 ∧ p2 < 4294967296 ∧ p3 < 4294967296 ∧ p4 < 4294967296 ∧ p5 < 4294967296 ∧ p6 < 4294967296 ∧ p7 < 4294967296 ∧ p8 < 4294967296 := by
  have hc : Try.prog.cellsOf 3 = 1 := by kernel_rfl
  have hc9 : Try.prog.cellsOf 26 = 9 := by kernel_rfl
  have hcu : Try.prog.cellsOf 25 = 1 := by kernel_rfl
  have hc14 : Try.prog.cellsOf 28 = 14 := by kernel_rfl
  obtain ⟨⟨l⟩, rfl, h⟩ := arg_agg hx (.inl ⟨_, Try.underlying28⟩)
  have hl := rd_len Try.underlying28 h
  rw [hc14] at hl
  match l, hl with
  | [c0, c1, c2, c3, c4, c5, c6, c7, c8, c9, c10, c11, c12, c13], _ =>
    obtain ⟨a, rfl, _⟩ := rd_fld_int Try.underlying28 h 0 (u := 3) (o := 0) rfl hc Try.underlying3 rfl
    obtain ⟨v, rfl, _⟩ := rd_fld_int Try.underlying28 h 1 (u := 3) (o := 1) rfl hc Try.underlying3 rfl
    obtain ⟨k, rfl, _⟩ := rd_fld_int Try.underlying28 h 2 (u := 3) (o := 2) rfl hc Try.underlying3 rfl
    obtain ⟨l, rfl, _⟩ := rd_fld_int Try.underlying28 h 3 (u := 3) (o := 3) rfl hc Try.underlying3 rfl
    obtain ⟨s, rfl, _⟩ := rd_fld_int Try.underlying28 h 4 (u := 3) (o := 4) rfl hc Try.underlying3 rfl
    have ha := rd_field Try.underlying28 h 5 (u := 26) (o := 5) rfl hc9
    change Rd _ _ _ _ [c5, c6, c7, c8, c9, c10, c11, c12, c13] at ha
    obtain ⟨m0, rfl, w0⟩ := rd_arr_int Try.underlying26 ha hcu Try.underlying25 0 (by omega) (c := c5) rfl
    obtain ⟨p0, rfl, b0⟩ := wf_bd_u32 w0
    obtain ⟨m1, rfl, w1⟩ := rd_arr_int Try.underlying26 ha hcu Try.underlying25 1 (by omega) (c := c6) rfl
    obtain ⟨p1, rfl, b1⟩ := wf_bd_u32 w1
    obtain ⟨m2, rfl, w2⟩ := rd_arr_int Try.underlying26 ha hcu Try.underlying25 2 (by omega) (c := c7) rfl
    obtain ⟨p2, rfl, b2⟩ := wf_bd_u32 w2
    obtain ⟨m3, rfl, w3⟩ := rd_arr_int Try.underlying26 ha hcu Try.underlying25 3 (by omega) (c := c8) rfl
    obtain ⟨p3, rfl, b3⟩ := wf_bd_u32 w3
    obtain ⟨m4, rfl, w4⟩ := rd_arr_int Try.underlying26 ha hcu Try.underlying25 4 (by omega) (c := c9) rfl
    obtain ⟨p4, rfl, b4⟩ := wf_bd_u32 w4
    obtain ⟨m5, rfl, w5⟩ := rd_arr_int Try.underlying26 ha hcu Try.underlying25 5 (by omega) (c := c10) rfl
    obtain ⟨p5, rfl, b5⟩ := wf_bd_u32 w5
    obtain ⟨m6, rfl, w6⟩ := rd_arr_int Try.underlying26 ha hcu Try.underlying25 6 (by omega) (c := c11) rfl
    obtain ⟨p6, rfl, b6⟩ := wf_bd_u32 w6
    obtain ⟨m7, rfl, w7⟩ := rd_arr_int Try.underlying26 ha hcu Try.underlying25 7 (by omega) (c := c12) rfl
    obtain ⟨p7, rfl, b7⟩ := wf_bd_u32 w7
    obtain ⟨m8, rfl, w8⟩ := rd_arr_int Try.underlying26 ha hcu Try.underlying25 8 (by omega) (c := c13) rfl
    obtain ⟨p8, rfl, b8⟩ := wf_bd_u32 w8
    exact ⟨a, v, k, l, s, p0, p1, p2, p3, p4, p5, p6, p7, p8, rfl, b0, b1, b2, b3, b4, b5, b6, b7, b8⟩
end Go.Proofs.Ytbceejcmjklklaa
