/- The walk of marllaw03.GeomPlaces. -/
import Derived.Test.YtdcojnmgipidmaaGeomA
namespace Go.Proofs.Ytdcojnmgipidmaa
open Go.RowKit

set_option maxRecDepth 100000 in
set_option maxHeartbeats 4000000 in
theorem places_11 (b s i a k : Int) (w : World) (ha : inSegs b s i a) (hk : (0 ≤ k ∧ k < segsI b s i)) :
    Calls Try.prog 3 #[geoV b s i, .int .i64 a, .int .i64 k] w fun e w' => e = .returned (.bool true) ∧ Below w.heap.size w w' := by
  have Ha := hide ha
  have Hk := hide hk
  have HV := hide (ofV_yes ha)
  obtain ⟨g1, g2, g3, g4, -, -, -⟩ := inSegs_geo ha
  obtain ⟨p1, p2, p3, p4, -⟩ := place (s := s) (a := a) (n := segsI b s i) (by omega) ha.1 ha.2
  have Hat := hide (at_first hk.1 hk.2)
  clear ha
  obtain ⟨k0, k1⟩ := hk
  obtain ⟨q1, q2, q3, q4, q5⟩ := segs_fit (segsI_pos (by omega : 0 < segsI b s i))
  obtain ⟨r1, r2, r3, r4, -, -, -⟩ := segsI_pos (by omega : 0 < segsI b s i)
  have hfit := seg_fits k0 k1
  have hm0 : 0 ≤ k * s := Int.mul_nonneg k0 (by omega)
  go_enter Try.func3, Try.ntmps3
  go_wp2_with fail
  have Hb0 := hide (Below.refl (w.heap.size + 1) (w.alloc (.cells #[.int .i64 b, .int .i64 s, .int .i64 i] 23)))
  refine (awake_any _).mono ?_
  rintro e w1 ⟨rfl, hb1⟩
  have Hb1 := hide (box_next Hb0.out hb1)
  obtain ⟨c0, c1, c2⟩ := box3 Hb1.out
  clear hb1
  go_wp2_with fail
  clear c0 c1 c2
  refine (ref_any b s i _).mono ?_
  rintro e w2 ⟨rfl, hb2⟩
  have Hb2 := hide (box_next Hb1.out hb2)
  obtain ⟨c0, c1, c2⟩ := box3 Hb2.out
  clear hb2
  go_wp2_with fail
  clear c0 c1 c2
  refine (rsegs_any b s i _).mono ?_
  rintro e w3 ⟨rfl, hb3⟩
  have Hb3 := hide (box_next Hb2.out hb3)
  obtain ⟨c0, c1, c2⟩ := box3 Hb3.out
  clear hb3
  go_wp2_with fail
  clear c0 c1 c2
  refine (of_yes b s i a _ Ha.out).mono ?_
  rintro e w4 ⟨rfl, hb4⟩
  have Hb4 := hide (box_next Hb3.out hb4)
  obtain ⟨c0, c1, c2⟩ := box3 Hb4.out
  clear hb4
  go_wp2_with fail
  clear c0 c1 c2
  refine (ref_any b s i _).mono ?_
  rintro e w5 ⟨rfl, hb5⟩
  have Hb5 := hide (box_next Hb4.out hb5)
  obtain ⟨c0, c1, c2⟩ := box3 Hb5.out
  clear hb5
  go_wp2_with fail
  clear c0 c1 c2
  have C := rof_any b s i a w5
  rw [HV.out] at C
  have HC := hide C
  clear C
  refine (show Calls _ _ _ _ _ from HC.out).mono ?_
  rintro e w6 ⟨rfl, hb6⟩
  have Hb6 := hide (box_next Hb5.out hb6)
  obtain ⟨c0, c1, c2⟩ := box3 Hb6.out
  clear hb6
  clear HC
  go_wp2_with fail
  clear c0 c1 c2
  refine (left_yes b s i a _ Ha.out).mono ?_
  rintro e w7 ⟨rfl, hb7⟩
  have Hb7 := hide (box_next Hb6.out hb7)
  obtain ⟨c0, c1, c2⟩ := box3 Hb7.out
  clear hb7
  go_wp2_with fail
  clear c0 c1 c2
  refine (first_yes b s i k _ Hk.out.1 Hk.out.2).mono ?_
  rintro e w8 ⟨rfl, hb8⟩
  have Hb8 := hide (box_next Hb7.out hb8)
  obtain ⟨c0, c1, c2⟩ := box3 Hb8.out
  clear hb8
  go_wp2_with fail
  clear c0 c1 c2
  have D := of_yes b s i (3 + k * s) w8 Hat.out.1
  rw [Hat.out.2.1, Hat.out.2.2] at D
  have HD := hide D
  clear D
  refine (show Calls _ _ _ _ _ from HD.out).mono ?_
  rintro e w9 ⟨rfl, hb9⟩
  have Hb9 := hide (box_next Hb8.out hb9)
  obtain ⟨c0, c1, c2⟩ := box3 Hb9.out
  clear hb9
  clear HD
  go_wp2_with fail
  clear c0 c1 c2
  go_ret
  exact ⟨rfl, box_end Hb9.out⟩

set_option maxRecDepth 100000 in
set_option maxHeartbeats 4000000 in
theorem places_10 (b s i a k : Int) (w : World) (ha : inSegs b s i a) (hk : ¬ (0 ≤ k ∧ k < segsI b s i)) :
    Calls Try.prog 3 #[geoV b s i, .int .i64 a, .int .i64 k] w fun e w' => e = .returned (.bool true) ∧ Below w.heap.size w w' := by
  have Ha := hide ha
  have Hk := hide hk
  have HV := hide (ofV_yes ha)
  obtain ⟨g1, g2, g3, g4, -, -, -⟩ := inSegs_geo ha
  obtain ⟨p1, p2, p3, p4, -⟩ := place (s := s) (a := a) (n := segsI b s i) (by omega) ha.1 ha.2
  clear ha hk
  have hk : k < 0 ∨ (0 ≤ k ∧ segsI b s i ≤ k) := by have := Hk.out; omega
  obtain ⟨n0, n1⟩ := segsI_bd b s i
  rcases hk with hk | ⟨hk, hk2⟩
  · go_enter Try.func3, Try.ntmps3
    go_wp2_with fail
    have Hb0 := hide (Below.refl (w.heap.size + 1) (w.alloc (.cells #[.int .i64 b, .int .i64 s, .int .i64 i] 23)))
    refine (awake_any _).mono ?_
    rintro e w1 ⟨rfl, hb1⟩
    have Hb1 := hide (box_next Hb0.out hb1)
    obtain ⟨c0, c1, c2⟩ := box3 Hb1.out
    clear hb1
    go_wp2_with fail
    clear c0 c1 c2
    refine (ref_any b s i _).mono ?_
    rintro e w2 ⟨rfl, hb2⟩
    have Hb2 := hide (box_next Hb1.out hb2)
    obtain ⟨c0, c1, c2⟩ := box3 Hb2.out
    clear hb2
    go_wp2_with fail
    clear c0 c1 c2
    refine (rsegs_any b s i _).mono ?_
    rintro e w3 ⟨rfl, hb3⟩
    have Hb3 := hide (box_next Hb2.out hb3)
    obtain ⟨c0, c1, c2⟩ := box3 Hb3.out
    clear hb3
    go_wp2_with fail
    clear c0 c1 c2
    refine (of_yes b s i a _ Ha.out).mono ?_
    rintro e w4 ⟨rfl, hb4⟩
    have Hb4 := hide (box_next Hb3.out hb4)
    obtain ⟨c0, c1, c2⟩ := box3 Hb4.out
    clear hb4
    go_wp2_with fail
    clear c0 c1 c2
    refine (ref_any b s i _).mono ?_
    rintro e w5 ⟨rfl, hb5⟩
    have Hb5 := hide (box_next Hb4.out hb5)
    obtain ⟨c0, c1, c2⟩ := box3 Hb5.out
    clear hb5
    go_wp2_with fail
    clear c0 c1 c2
    have C := rof_any b s i a w5
    rw [HV.out] at C
    have HC := hide C
    clear C
    refine (show Calls _ _ _ _ _ from HC.out).mono ?_
    rintro e w6 ⟨rfl, hb6⟩
    have Hb6 := hide (box_next Hb5.out hb6)
    obtain ⟨c0, c1, c2⟩ := box3 Hb6.out
    clear hb6
    clear HC
    go_wp2_with fail
    clear c0 c1 c2
    refine (left_yes b s i a _ Ha.out).mono ?_
    rintro e w7 ⟨rfl, hb7⟩
    have Hb7 := hide (box_next Hb6.out hb7)
    obtain ⟨c0, c1, c2⟩ := box3 Hb7.out
    clear hb7
    go_wp2_with fail
    clear c0 c1 c2
    refine (first_no b s i k _ Hk.out).mono ?_
    rintro e w8 ⟨rfl, hb8⟩
    have Hb8 := hide (box_next Hb7.out hb8)
    obtain ⟨c0, c1, c2⟩ := box3 Hb8.out
    clear hb8
    go_wp2_with fail
    clear c0 c1 c2
    go_ret
    exact ⟨rfl, box_end Hb8.out⟩
  · go_enter Try.func3, Try.ntmps3
    go_wp2_with fail
    have Hb0 := hide (Below.refl (w.heap.size + 1) (w.alloc (.cells #[.int .i64 b, .int .i64 s, .int .i64 i] 23)))
    refine (awake_any _).mono ?_
    rintro e w1 ⟨rfl, hb1⟩
    have Hb1 := hide (box_next Hb0.out hb1)
    obtain ⟨c0, c1, c2⟩ := box3 Hb1.out
    clear hb1
    go_wp2_with fail
    clear c0 c1 c2
    refine (ref_any b s i _).mono ?_
    rintro e w2 ⟨rfl, hb2⟩
    have Hb2 := hide (box_next Hb1.out hb2)
    obtain ⟨c0, c1, c2⟩ := box3 Hb2.out
    clear hb2
    go_wp2_with fail
    clear c0 c1 c2
    refine (rsegs_any b s i _).mono ?_
    rintro e w3 ⟨rfl, hb3⟩
    have Hb3 := hide (box_next Hb2.out hb3)
    obtain ⟨c0, c1, c2⟩ := box3 Hb3.out
    clear hb3
    go_wp2_with fail
    clear c0 c1 c2
    refine (of_yes b s i a _ Ha.out).mono ?_
    rintro e w4 ⟨rfl, hb4⟩
    have Hb4 := hide (box_next Hb3.out hb4)
    obtain ⟨c0, c1, c2⟩ := box3 Hb4.out
    clear hb4
    go_wp2_with fail
    clear c0 c1 c2
    refine (ref_any b s i _).mono ?_
    rintro e w5 ⟨rfl, hb5⟩
    have Hb5 := hide (box_next Hb4.out hb5)
    obtain ⟨c0, c1, c2⟩ := box3 Hb5.out
    clear hb5
    go_wp2_with fail
    clear c0 c1 c2
    have C := rof_any b s i a w5
    rw [HV.out] at C
    have HC := hide C
    clear C
    refine (show Calls _ _ _ _ _ from HC.out).mono ?_
    rintro e w6 ⟨rfl, hb6⟩
    have Hb6 := hide (box_next Hb5.out hb6)
    obtain ⟨c0, c1, c2⟩ := box3 Hb6.out
    clear hb6
    clear HC
    go_wp2_with fail
    clear c0 c1 c2
    refine (left_yes b s i a _ Ha.out).mono ?_
    rintro e w7 ⟨rfl, hb7⟩
    have Hb7 := hide (box_next Hb6.out hb7)
    obtain ⟨c0, c1, c2⟩ := box3 Hb7.out
    clear hb7
    go_wp2_with fail
    clear c0 c1 c2
    refine (first_no b s i k _ Hk.out).mono ?_
    rintro e w8 ⟨rfl, hb8⟩
    have Hb8 := hide (box_next Hb7.out hb8)
    obtain ⟨c0, c1, c2⟩ := box3 Hb8.out
    clear hb8
    go_wp2_with fail
    clear c0 c1 c2
    go_ret
    exact ⟨rfl, box_end Hb8.out⟩

set_option maxRecDepth 100000 in
set_option maxHeartbeats 4000000 in
theorem places_01 (b s i a k : Int) (w : World) (ha : ¬ inSegs b s i a) (hk : (0 ≤ k ∧ k < segsI b s i)) :
    Calls Try.prog 3 #[geoV b s i, .int .i64 a, .int .i64 k] w fun e w' => e = .returned (.bool true) ∧ Below w.heap.size w w' := by
  have Ha := hide ha
  have Hk := hide hk
  have HV := hide (ofV_no ha)
  have Hat := hide (at_first hk.1 hk.2)
  clear ha
  obtain ⟨k0, k1⟩ := hk
  obtain ⟨q1, q2, q3, q4, q5⟩ := segs_fit (segsI_pos (by omega : 0 < segsI b s i))
  obtain ⟨r1, r2, r3, r4, -, -, -⟩ := segsI_pos (by omega : 0 < segsI b s i)
  have hfit := seg_fits k0 k1
  have hm0 : 0 ≤ k * s := Int.mul_nonneg k0 (by omega)
  go_enter Try.func3, Try.ntmps3
  go_wp2_with fail
  have Hb0 := hide (Below.refl (w.heap.size + 1) (w.alloc (.cells #[.int .i64 b, .int .i64 s, .int .i64 i] 23)))
  refine (awake_any _).mono ?_
  rintro e w1 ⟨rfl, hb1⟩
  have Hb1 := hide (box_next Hb0.out hb1)
  obtain ⟨c0, c1, c2⟩ := box3 Hb1.out
  clear hb1
  go_wp2_with fail
  clear c0 c1 c2
  refine (ref_any b s i _).mono ?_
  rintro e w2 ⟨rfl, hb2⟩
  have Hb2 := hide (box_next Hb1.out hb2)
  obtain ⟨c0, c1, c2⟩ := box3 Hb2.out
  clear hb2
  go_wp2_with fail
  clear c0 c1 c2
  refine (rsegs_any b s i _).mono ?_
  rintro e w3 ⟨rfl, hb3⟩
  have Hb3 := hide (box_next Hb2.out hb3)
  obtain ⟨c0, c1, c2⟩ := box3 Hb3.out
  clear hb3
  go_wp2_with fail
  clear c0 c1 c2
  refine (of_no b s i a _ Ha.out).mono ?_
  rintro e w4 ⟨rfl, hb4⟩
  have Hb4 := hide (box_next Hb3.out hb4)
  obtain ⟨c0, c1, c2⟩ := box3 Hb4.out
  clear hb4
  go_wp2_with fail
  clear c0 c1 c2
  refine (ref_any b s i _).mono ?_
  rintro e w5 ⟨rfl, hb5⟩
  have Hb5 := hide (box_next Hb4.out hb5)
  obtain ⟨c0, c1, c2⟩ := box3 Hb5.out
  clear hb5
  go_wp2_with fail
  clear c0 c1 c2
  have C := rof_any b s i a w5
  rw [HV.out] at C
  have HC := hide C
  clear C
  refine (show Calls _ _ _ _ _ from HC.out).mono ?_
  rintro e w6 ⟨rfl, hb6⟩
  have Hb6 := hide (box_next Hb5.out hb6)
  obtain ⟨c0, c1, c2⟩ := box3 Hb6.out
  clear hb6
  clear HC
  go_wp2_with fail
  clear c0 c1 c2
  refine (left_no b s i a _ Ha.out).mono ?_
  rintro e w7 ⟨rfl, hb7⟩
  have Hb7 := hide (box_next Hb6.out hb7)
  obtain ⟨c0, c1, c2⟩ := box3 Hb7.out
  clear hb7
  go_wp2_with fail
  clear c0 c1 c2
  refine (first_yes b s i k _ Hk.out.1 Hk.out.2).mono ?_
  rintro e w8 ⟨rfl, hb8⟩
  have Hb8 := hide (box_next Hb7.out hb8)
  obtain ⟨c0, c1, c2⟩ := box3 Hb8.out
  clear hb8
  go_wp2_with fail
  clear c0 c1 c2
  have D := of_yes b s i (3 + k * s) w8 Hat.out.1
  rw [Hat.out.2.1, Hat.out.2.2] at D
  have HD := hide D
  clear D
  refine (show Calls _ _ _ _ _ from HD.out).mono ?_
  rintro e w9 ⟨rfl, hb9⟩
  have Hb9 := hide (box_next Hb8.out hb9)
  obtain ⟨c0, c1, c2⟩ := box3 Hb9.out
  clear hb9
  clear HD
  go_wp2_with fail
  clear c0 c1 c2
  go_ret
  exact ⟨rfl, box_end Hb9.out⟩

set_option maxRecDepth 100000 in
set_option maxHeartbeats 4000000 in
theorem places_00 (b s i a k : Int) (w : World) (ha : ¬ inSegs b s i a) (hk : ¬ (0 ≤ k ∧ k < segsI b s i)) :
    Calls Try.prog 3 #[geoV b s i, .int .i64 a, .int .i64 k] w fun e w' => e = .returned (.bool true) ∧ Below w.heap.size w w' := by
  have Ha := hide ha
  have Hk := hide hk
  have HV := hide (ofV_no ha)
  clear ha hk
  have hk : k < 0 ∨ (0 ≤ k ∧ segsI b s i ≤ k) := by have := Hk.out; omega
  obtain ⟨n0, n1⟩ := segsI_bd b s i
  rcases hk with hk | ⟨hk, hk2⟩
  · go_enter Try.func3, Try.ntmps3
    go_wp2_with fail
    have Hb0 := hide (Below.refl (w.heap.size + 1) (w.alloc (.cells #[.int .i64 b, .int .i64 s, .int .i64 i] 23)))
    refine (awake_any _).mono ?_
    rintro e w1 ⟨rfl, hb1⟩
    have Hb1 := hide (box_next Hb0.out hb1)
    obtain ⟨c0, c1, c2⟩ := box3 Hb1.out
    clear hb1
    go_wp2_with fail
    clear c0 c1 c2
    refine (ref_any b s i _).mono ?_
    rintro e w2 ⟨rfl, hb2⟩
    have Hb2 := hide (box_next Hb1.out hb2)
    obtain ⟨c0, c1, c2⟩ := box3 Hb2.out
    clear hb2
    go_wp2_with fail
    clear c0 c1 c2
    refine (rsegs_any b s i _).mono ?_
    rintro e w3 ⟨rfl, hb3⟩
    have Hb3 := hide (box_next Hb2.out hb3)
    obtain ⟨c0, c1, c2⟩ := box3 Hb3.out
    clear hb3
    go_wp2_with fail
    clear c0 c1 c2
    refine (of_no b s i a _ Ha.out).mono ?_
    rintro e w4 ⟨rfl, hb4⟩
    have Hb4 := hide (box_next Hb3.out hb4)
    obtain ⟨c0, c1, c2⟩ := box3 Hb4.out
    clear hb4
    go_wp2_with fail
    clear c0 c1 c2
    refine (ref_any b s i _).mono ?_
    rintro e w5 ⟨rfl, hb5⟩
    have Hb5 := hide (box_next Hb4.out hb5)
    obtain ⟨c0, c1, c2⟩ := box3 Hb5.out
    clear hb5
    go_wp2_with fail
    clear c0 c1 c2
    have C := rof_any b s i a w5
    rw [HV.out] at C
    have HC := hide C
    clear C
    refine (show Calls _ _ _ _ _ from HC.out).mono ?_
    rintro e w6 ⟨rfl, hb6⟩
    have Hb6 := hide (box_next Hb5.out hb6)
    obtain ⟨c0, c1, c2⟩ := box3 Hb6.out
    clear hb6
    clear HC
    go_wp2_with fail
    clear c0 c1 c2
    refine (left_no b s i a _ Ha.out).mono ?_
    rintro e w7 ⟨rfl, hb7⟩
    have Hb7 := hide (box_next Hb6.out hb7)
    obtain ⟨c0, c1, c2⟩ := box3 Hb7.out
    clear hb7
    go_wp2_with fail
    clear c0 c1 c2
    refine (first_no b s i k _ Hk.out).mono ?_
    rintro e w8 ⟨rfl, hb8⟩
    have Hb8 := hide (box_next Hb7.out hb8)
    obtain ⟨c0, c1, c2⟩ := box3 Hb8.out
    clear hb8
    go_wp2_with fail
    clear c0 c1 c2
    go_ret
    exact ⟨rfl, box_end Hb8.out⟩
  · go_enter Try.func3, Try.ntmps3
    go_wp2_with fail
    have Hb0 := hide (Below.refl (w.heap.size + 1) (w.alloc (.cells #[.int .i64 b, .int .i64 s, .int .i64 i] 23)))
    refine (awake_any _).mono ?_
    rintro e w1 ⟨rfl, hb1⟩
    have Hb1 := hide (box_next Hb0.out hb1)
    obtain ⟨c0, c1, c2⟩ := box3 Hb1.out
    clear hb1
    go_wp2_with fail
    clear c0 c1 c2
    refine (ref_any b s i _).mono ?_
    rintro e w2 ⟨rfl, hb2⟩
    have Hb2 := hide (box_next Hb1.out hb2)
    obtain ⟨c0, c1, c2⟩ := box3 Hb2.out
    clear hb2
    go_wp2_with fail
    clear c0 c1 c2
    refine (rsegs_any b s i _).mono ?_
    rintro e w3 ⟨rfl, hb3⟩
    have Hb3 := hide (box_next Hb2.out hb3)
    obtain ⟨c0, c1, c2⟩ := box3 Hb3.out
    clear hb3
    go_wp2_with fail
    clear c0 c1 c2
    refine (of_no b s i a _ Ha.out).mono ?_
    rintro e w4 ⟨rfl, hb4⟩
    have Hb4 := hide (box_next Hb3.out hb4)
    obtain ⟨c0, c1, c2⟩ := box3 Hb4.out
    clear hb4
    go_wp2_with fail
    clear c0 c1 c2
    refine (ref_any b s i _).mono ?_
    rintro e w5 ⟨rfl, hb5⟩
    have Hb5 := hide (box_next Hb4.out hb5)
    obtain ⟨c0, c1, c2⟩ := box3 Hb5.out
    clear hb5
    go_wp2_with fail
    clear c0 c1 c2
    have C := rof_any b s i a w5
    rw [HV.out] at C
    have HC := hide C
    clear C
    refine (show Calls _ _ _ _ _ from HC.out).mono ?_
    rintro e w6 ⟨rfl, hb6⟩
    have Hb6 := hide (box_next Hb5.out hb6)
    obtain ⟨c0, c1, c2⟩ := box3 Hb6.out
    clear hb6
    clear HC
    go_wp2_with fail
    clear c0 c1 c2
    refine (left_no b s i a _ Ha.out).mono ?_
    rintro e w7 ⟨rfl, hb7⟩
    have Hb7 := hide (box_next Hb6.out hb7)
    obtain ⟨c0, c1, c2⟩ := box3 Hb7.out
    clear hb7
    go_wp2_with fail
    clear c0 c1 c2
    refine (first_no b s i k _ Hk.out).mono ?_
    rintro e w8 ⟨rfl, hb8⟩
    have Hb8 := hide (box_next Hb7.out hb8)
    obtain ⟨c0, c1, c2⟩ := box3 Hb8.out
    clear hb8
    go_wp2_with fail
    clear c0 c1 c2
    go_ret
    exact ⟨rfl, box_end Hb8.out⟩

theorem places_all (b s i a k : Int) (w : World) :
    Calls Try.prog 3 #[geoV b s i, .int .i64 a, .int .i64 k] w fun e w' => e = .returned (.bool true) ∧ Below w.heap.size w w' := by
  by_cases ha : inSegs b s i a
  · by_cases hk : 0 ≤ k ∧ k < segsI b s i
    · exact places_11 b s i a k w ha hk
    · exact places_10 b s i a k w ha hk
  · by_cases hk : 0 ≤ k ∧ k < segsI b s i
    · exact places_01 b s i a k w ha hk
    · exact places_00 b s i a k w ha hk
end Go.Proofs.Ytdcojnmgipidmaa
