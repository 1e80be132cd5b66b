/- The fixed fact of marllaw03, and a geometry as an argument. -/
import Derived.Test.YtdcojnmgipidmaaGeomRW
import Derived.Test.YtdcojnmgipidmaaRd
namespace Go.Proofs.Ytdcojnmgipidmaa
open Go.RowKit

theorem geo_arg {w : World} {v : Value} (ha : Arg Try.prog w 23 v) : ∃ b s i, v = geoV b s i := by
  have hc : Try.prog.cellsOf 3 = 1 := by kernel_rfl
  have hc3 : Try.prog.cellsOf 23 = 3 := by kernel_rfl
  obtain ⟨⟨l⟩, rfl, h⟩ := arg_agg ha (.inl ⟨_, Try.underlying23⟩)
  have hl := rd_len Try.underlying23 h
  rw [hc3] at hl
  match l, hl with
  | [c0, c1, c2], _ =>
    obtain ⟨b, rfl, _⟩ := rd_fld_int Try.underlying23 h 0 (u := 3) (o := 0) rfl hc Try.underlying3 rfl
    obtain ⟨s, rfl, _⟩ := rd_fld_int Try.underlying23 h 1 (u := 3) (o := 1) rfl hc Try.underlying3 rfl
    obtain ⟨i, rfl, _⟩ := rd_fld_int Try.underlying23 h 2 (u := 3) (o := 2) rfl hc Try.underlying3 rfl
    exact ⟨b, s, i, rfl⟩
theorem int_arg {w : World} {v : Value} (h : Arg Try.prog w 3 v) : ∃ n, v = .int .i64 n ∧ -9223372036854775808 ≤ n ∧ n ≤ 9223372036854775807 := by
  obtain ⟨n, hn, hw⟩ := rd_int Try.underlying3 (arg_one h Try.underlying3 (fun _ => by simp) (fun _ _ => by simp))
  simp at hn
  have := wf_bd_i64 hw
  exact ⟨n, hn, this.1, this.2⟩

theorem g100 : GeoP 100 16 20 := by unfold GeoP; decide
theorem segs100 : segsI 100 16 20 = 6 := by rw [segsI_yes g100]; decide
/-- A boxed struct of three, while all that is new lies above it. -/
theorem box3 {w w' : World} {a b c : Value} {t : TypeId} (hb : Below (w.heap.size + 1) (w.alloc (.cells #[a, b, c] t)) w') :
    w'.cell? ⟨w.heap.size, 0, none⟩ = some a ∧ w'.cell? ⟨w.heap.size, 1, none⟩ = some b ∧ w'.cell? ⟨w.heap.size, 2, none⟩ = some c := by
  refine ⟨?_, ?_, ?_⟩ <;> (rw [hb.cell (by simp)]; simp)
theorem box_next {w w1 w2 : World} {o : Obj} (h : Below (w.heap.size + 1) (w.alloc o) w1) (h2 : Below w1.heap.size w1 w2) : Below (w.heap.size + 1) (w.alloc o) w2 :=
  h.trans (h2.mono (by have := h.size; simpa using this))
theorem box_end {w w1 : World} {o : Obj} (h : Below (w.heap.size + 1) (w.alloc o) w1) : Below w.heap.size w w1 :=
  ((Below.refl _ _).alloc (Nat.le_refl _) _).trans (h.mono (Nat.le_succ _))

set_option maxRecDepth 100000 in
set_option maxHeartbeats 1000000 in
theorem awake_any (w : World) :
    Calls Try.prog 9 #[] w fun e w' => e = .returned (.bool true) ∧ Below w.heap.size w w' := by
  have i20 : inSegs 100 16 20 20 := by unfold inSegs; rw [segs100]; omega
  have i34 : inSegs 100 16 20 34 := by unfold inSegs; rw [segs100]; omega
  have i99 : ¬ inSegs 100 16 20 99 := by unfold inSegs; rw [segs100]; omega
  have I20 := hide i20
  have I34 := hide i34
  have I99 := hide i99
  clear i20 i34 i99
  go_enter Try.func9, Try.ntmps9
  go_wp2_with fail
  have Hb0 := hide (Below.refl (w.heap.size + 1) (w.alloc (.cells #[.int .i64 100, .int .i64 16, .int .i64 20] 23)))
  refine (first_yes 100 16 20 1 _ (by omega) (by rw [segs100]; omega)).mono ?_
  rintro e w1 ⟨rfl, hb1⟩
  have Hb1 := hide (box_next Hb0.out hb1)
  obtain ⟨c0, c1, c2⟩ := box3 Hb1.out
  clear hb1
  go_wp2_with fail
  clear c0 c1 c2
  refine (of_yes 100 16 20 20 _ I20.out).mono ?_
  rintro e w2 ⟨rfl, hb2⟩
  have Hb2 := hide (box_next Hb1.out hb2)
  obtain ⟨c0, c1, c2⟩ := box3 Hb2.out
  clear hb2
  go_wp2_with fail
  clear c0 c1 c2
  refine (left_yes 100 16 20 34 _ I34.out).mono ?_
  rintro e w3 ⟨rfl, hb3⟩
  have Hb3 := hide (box_next Hb2.out hb3)
  obtain ⟨c0, c1, c2⟩ := box3 Hb3.out
  clear hb3
  go_wp2_with fail
  clear c0 c1 c2
  refine (of_no 100 16 20 99 _ I99.out).mono ?_
  rintro e w4 ⟨rfl, hb4⟩
  have Hb4 := hide (box_next Hb3.out hb4)
  obtain ⟨c0, c1, c2⟩ := box3 Hb4.out
  clear hb4
  go_wp2_with fail
  clear c0 c1 c2
  refine (segs_any 100 16 20 _).mono ?_
  rintro e w5 ⟨rfl, hb5⟩
  have Hb5 := hide (box_next Hb4.out hb5)
  clear hb5
  rw [segs100]
  go_wp2_with fail
  go_ret
  exact ⟨rfl, box_end Hb5.out⟩
end Go.Proofs.Ytdcojnmgipidmaa
