/- The walk of marllaw03.GeomChecks. -/
import Derived.Test.YtdcojnmgipidmaaGeomRefEncW
import Derived.Deep.RegionHeld3
namespace Go.Proofs.Ytdcojnmgipidmaa
open Go.RowKit

set_option maxRecDepth 100000 in
set_option maxHeartbeats 4000000 in
theorem checks_no (b s i : Int) (w : World) (h : ¬ GeoP b s i) :
    Calls Try.prog 6 #[geoV b s i] w fun e w' => e = .returned (.bool true) ∧ Below w.heap.size w w' := by
  have Hg := hide h
  have hseg := segsI_no h
  have h0 : ¬ (0 ≤ (0 : Int) ∧ 0 < segsI b s i) := by rw [hseg]; omega
  have h3 : ¬ inSegs b s i 3 := fun h' => h (inSegs_geo h')
  have H0 := hide h0
  have H3 := hide h3
  clear h h0 h3
  go_enter Try.func6, Try.ntmps6
  go_wp2_with fail
  have Hb0 := hide (Below.refl (w.heap.size + 1) (w.alloc (.cells #[.int .i64 b, .int .i64 s, .int .i64 i] 23)))
  refine (awake_any _).mono ?_
  rintro e w1 ⟨rfl, hb1⟩
  have Hb1 := hide (box_next Hb0.out hb1)
  obtain ⟨c0, c1, c2⟩ := box3 Hb1.out
  clear hb1
  go_wp2_with fail
  clear c0 c1 c2
  refine (ref_any b s i _).mono ?_
  rintro e w2 ⟨rfl, hb2⟩
  have Hb2 := hide (box_next Hb1.out hb2)
  obtain ⟨c0, c1, c2⟩ := box3 Hb2.out
  clear hb2
  go_wp2_with fail
  clear c0 c1 c2
  refine (rsegs_any b s i _).mono ?_
  rintro e w3 ⟨rfl, hb3⟩
  have Hb3 := hide (box_next Hb2.out hb3)
  obtain ⟨c0, c1, c2⟩ := box3 Hb3.out
  clear hb3
  rw [hseg]
  go_wp2_with fail
  clear c0 c1 c2
  refine (enc_no b s i _ Hg.out).mono ?_
  rintro e w4 ⟨rfl, hb4⟩
  have Hb4 := hide (box_next Hb3.out hb4)
  obtain ⟨c0, c1, c2⟩ := box3 Hb4.out
  clear hb4
  go_wp2_with fail
  clear c0 c1 c2
  refine (segs_any b s i _).mono ?_
  rintro e w5 ⟨rfl, hb5⟩
  have Hb5 := hide (box_next Hb4.out hb5)
  obtain ⟨c0, c1, c2⟩ := box3 Hb5.out
  clear hb5
  rw [hseg]
  go_wp2_with fail
  clear c0 c1 c2
  refine (check_no b s i _ Hg.out).mono ?_
  rintro e w6 ⟨rfl, hb6⟩
  have Hb6 := hide (box_next Hb5.out hb6)
  obtain ⟨c0, c1, c2⟩ := box3 Hb6.out
  clear hb6
  go_wp2_with fail
  clear c0 c1 c2
  refine (first_no b s i 0 _ H0.out).mono ?_
  rintro e w7 ⟨rfl, hb7⟩
  have Hb7 := hide (box_next Hb6.out hb7)
  obtain ⟨c0, c1, c2⟩ := box3 Hb7.out
  clear hb7
  go_wp2_with fail
  clear c0 c1 c2
  refine (of_no b s i 3 _ H3.out).mono ?_
  rintro e w8 ⟨rfl, hb8⟩
  have Hb8 := hide (box_next Hb7.out hb8)
  obtain ⟨c0, c1, c2⟩ := box3 Hb8.out
  clear hb8
  go_wp2_with fail
  clear c0 c1 c2
  refine (left_no b s i 3 _ H3.out).mono ?_
  rintro e w9 ⟨rfl, hb9⟩
  have Hb9 := hide (box_next Hb8.out hb9)
  obtain ⟨c0, c1, c2⟩ := box3 Hb9.out
  clear hb9
  go_wp2_with fail
  clear c0 c1 c2
  refine (check_no b s i _ Hg.out).mono ?_
  rintro e w10 ⟨rfl, hb10⟩
  have Hb10 := hide (box_next Hb9.out hb10)
  obtain ⟨c0, c1, c2⟩ := box3 Hb10.out
  clear hb10
  go_wp2_with fail
  clear c0 c1 c2
  go_ret
  exact ⟨rfl, box_end Hb10.out⟩

set_option maxRecDepth 100000 in
set_option maxHeartbeats 4000000 in
theorem checks_yes (b s i : Nat) (w : World) (h : GeoP b s i) :
    Calls Try.prog 6 #[geoV b s i] w fun e w' => e = .returned (.bool true) ∧ Below w.heap.size w w' := by
  have Hg := hide h
  obtain ⟨q1, q2, -, -, -⟩ := segs_fit h
  obtain ⟨g1, g2, g3, g4, g5, g6, -⟩ := h
  have hpos : 0 < segsI b s i := by omega
  go_enter Try.func6, Try.ntmps6
  go_wp2_with fail
  have Hb0 := hide (Below.refl (w.heap.size + 1) (w.alloc (.cells #[.int .i64 b, .int .i64 s, .int .i64 i] 23)))
  refine (awake_any _).mono ?_
  rintro e w1 ⟨rfl, hb1⟩
  have Hb1 := hide (box_next Hb0.out hb1)
  obtain ⟨c0, c1, c2⟩ := box3 Hb1.out
  clear hb1
  go_wp2_with fail
  clear c0 c1 c2
  refine (ref_any b s i _).mono ?_
  rintro e w2 ⟨rfl, hb2⟩
  have Hb2 := hide (box_next Hb1.out hb2)
  obtain ⟨c0, c1, c2⟩ := box3 Hb2.out
  clear hb2
  go_wp2_with fail
  clear c0 c1 c2
  refine (rsegs_any b s i _).mono ?_
  rintro e w3 ⟨rfl, hb3⟩
  have Hb3 := hide (box_next Hb2.out hb3)
  obtain ⟨c0, c1, c2⟩ := box3 Hb3.out
  clear hb3
  go_wp2_with fail
  clear c0 c1 c2
  refine (enc_yes b s i _ Hg.out).mono ?_
  rintro e w4 ⟨A4, d4, rfl, hown4, hb4⟩
  have Hown4 := hide hown4
  have Hb4 := hide (box_next Hb3.out hb4)
  obtain ⟨c0, c1, c2⟩ := box3 Hb4.out
  clear hb4 hown4
  go_wp2_with fail
  clear c0 c1 c2
  refine (segs_any b s i _).mono ?_
  rintro e w5 ⟨rfl, hb5⟩
  have Hown5 := hide (own_keep Hown4.out hb5)
  have Hb5 := hide (box_next Hb4.out hb5)
  obtain ⟨c0, c1, c2⟩ := box3 Hb5.out
  clear hb5
  go_wp2_with fail
  clear c0 c1 c2
  refine (check_yes b s i _ Hg.out).mono ?_
  rintro e w6 ⟨rfl, hb6⟩
  have Hown6 := hide (own_keep Hown5.out hb6)
  have Hb6 := hide (box_next Hb5.out hb6)
  clear hb6
  go_wp2_with fail
  obtain ⟨c0, c1, c2⟩ := box3 Hb6.out
  have e6 := run_conv_txt (P := Try.prog) w6.drew Try.underlying41 Try.underlying5 Try.underlying9 d4 (Sl.of_own Hown6.out).drew
  go_region_with
    (first
    | (go_at_call 11; refine (ref_any _ _ _ _).mono ?_; rintro e w7 ⟨rfl, hb7⟩; have hS7 := box3 (box_next (Hb6.out.drew) hb7); have Hb7 := hide (box_next Hb6.out.drew hb7); have Hown7 := hide (own_keep (own_drewN Hown6.out 1) hb7); have e7 := run_conv_txt (P := Try.prog) w7 Try.underlying41 Try.underlying5 Try.underlying9 d4 (Sl.of_own Hown7.out))
    | (go_at_call 19; refine (renc_any _ _ _ _ (by omega) (by omega) (by omega)).mono ?_; rintro e w8 ⟨A8, d8, rfl, hown8, hb8⟩; have hS8 := box3 (box_next Hb7.out hb8); have Hb8 := hide (box_next Hb7.out hb8); have e8 := run_conv_txt (P := Try.prog) w8 Try.underlying41 Try.underlying5 Try.underlying9 d4 (Sl.of_own (own_keep Hown7.out hb8)); have e9 := run_conv_txt (P := Try.prog) w8 Try.underlying41 Try.underlying5 Try.underlying9 d8 (Sl.of_own hown8); clear hown8))
  all_goals (go_wp2_with fail; go_ret; exact ⟨rfl, box_end Hb8.out⟩)

theorem checks_all (b s i : Int) (w : World) :
    Calls Try.prog 6 #[geoV b s i] w fun e w' => e = .returned (.bool true) ∧ Below w.heap.size w w' := by
  by_cases h : GeoP b s i
  · obtain ⟨b', rfl⟩ := Int.eq_ofNat_of_zero_le (show 0 ≤ b by have := h.1; omega)
    obtain ⟨s', rfl⟩ := Int.eq_ofNat_of_zero_le (show 0 ≤ s by have := h.2.2.1; omega)
    obtain ⟨i', rfl⟩ := Int.eq_ofNat_of_zero_le (show 0 ≤ i by have := h.2.2.2.2.1; omega)
    exact checks_yes b' s' i' w h
  · exact checks_no b s i w h
end Go.Proofs.Ytdcojnmgipidmaa
