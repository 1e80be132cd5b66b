/- The walk of marllaw03.GeomApart. -/
import Derived.Test.YtdcojnmgipidmaaGeomA
namespace Go.Proofs.Ytdcojnmgipidmaa
open Go.RowKit

set_option maxRecDepth 100000 in
set_option maxHeartbeats 4000000 in
theorem apart_all (b s i : Int) (w : World) :
    Calls Try.prog 4 #[geoV b s i] w fun e w' => e = .returned (.bool true) ∧ Below w.heap.size w w' := by
  obtain ⟨n0, n1⟩ := segsI_bd b s i
  go_enter Try.func4, Try.ntmps4
  go_wp2_with fail
  have Hb0 := hide (Below.refl (w.heap.size + 1) (w.alloc (.cells #[.int .i64 b, .int .i64 s, .int .i64 i] 23)))
  refine (awake_any _).mono ?_
  rintro e w1 ⟨rfl, hb1⟩
  have Hb1 := hide (box_next Hb0.out hb1)
  clear hb1
  go_wp2_with fail
  go_loopw [3, 4] (fun v3 v4 wr => ∃ q : Int, 0 ≤ q ∧ q ≤ segsI b s i ∧ v4 = .int .i64 q ∧ v3 = .int .i64 (3 + q * s) ∧ Below (w.heap.size + 1) (w.alloc (.cells #[.int .i64 b, .int .i64 s, .int .i64 i] 23)) wr) (fun _ v4 _ => (segsI b s i - intOf v4).toNat)
  case atStart => exact ⟨0, by omega, n0, rfl, by simp, Hb1.out⟩
  case round =>
    obtain ⟨q, q0, q1, rfl, rfl, hb2⟩ := hrel
    have Hb2 := hide hb2
    clear hb2
    obtain ⟨c0, c1, c2⟩ := box3 Hb2.out
    go_wp2_with fail
    clear c0 c1 c2
    refine (segs_any b s i _).mono ?_
    rintro e w3 ⟨rfl, hb3⟩
    have Hb3 := hide (box_next Hb2.out hb3)
    obtain ⟨c0, c1, c2⟩ := box3 Hb3.out
    clear hb3
    by_cases hq : q < segsI b s i
    · obtain ⟨g1, g2, g3, g4, -, -, -⟩ := segsI_pos (by omega : 0 < segsI b s i)
      obtain ⟨f1, f2, f3, f4, f5⟩ := segs_fit (segsI_pos (by omega : 0 < segsI b s i))
      have hfit := seg_fits q0 hq
      have hm0 : 0 ≤ q * s := Int.mul_nonneg q0 (by omega)
      go_wp2_with fail
      clear c0 c1 c2
      refine (first_yes b s i q _ q0 hq).mono ?_
      rintro e w4 ⟨rfl, hb4⟩
      have Hb4 := hide (box_next Hb3.out hb4)
      clear hb4
      go_wp2_with fail
      go_loopw [7] (fun v7 wr => ∃ k : Int, 0 ≤ k ∧ k ≤ s ∧ v7 = .int .i64 k ∧ Below (w.heap.size + 1) (w.alloc (.cells #[.int .i64 b, .int .i64 s, .int .i64 i] 23)) wr) (fun v7 _ => (s - intOf v7).toNat)
      case atStart => exact ⟨0, by omega, by omega, rfl, Hb4.out⟩
      case round =>
        obtain ⟨k, k0, k1, rfl, hb5⟩ := hrel
        have Hb5 := hide hb5
        clear hb5
        obtain ⟨c0, c1, c2⟩ := box3 Hb5.out
        by_cases hk : k < s
        · have Hat := hide (at_place q0 hq k0 hk)
          go_wp2_with fail
          clear c0 c1 c2
          have C := of_yes b s i (3 + q * s + k) wr Hat.out.1
          rw [Hat.out.2.1, Hat.out.2.2] at C
          have HC := hide C
          clear C
          refine (show Calls _ _ _ _ _ from HC.out).mono ?_
          clear HC
          rintro e w6 ⟨rfl, hb6⟩
          have Hb6 := hide (box_next Hb5.out hb6)
          clear hb6
          obtain ⟨c0, c1, c2⟩ := box3 Hb6.out
          go_wp2_with fail
          clear c0 c1 c2
          have C := left_yes b s i (3 + q * s + k) w6 Hat.out.1
          rw [Hat.out.2.2] at C
          have HC := hide C
          clear C
          refine (show Calls _ _ _ _ _ from HC.out).mono ?_
          clear HC
          rintro e w7 ⟨rfl, hb7⟩
          have Hb7 := hide (box_next Hb6.out hb7)
          clear hb7
          obtain ⟨c0, c1, c2⟩ := box3 Hb7.out
          have hsum : ((s - k + k) != s) = false := by rw [bne_eq_false_iff_eq]; omega
          go_wp2_with fail
          go_roundw
          case rel => exact ⟨k + 1, by omega, by omega, rfl, Hb7.out⟩
          case measure => simp [intOf]; omega
        · have hks := hide (show k = s by omega)
          go_wp2_with fail
          go_roundw
          case rel => exact ⟨q + 1, by omega, by omega, rfl, by rw [Int.add_mul, Int.one_mul, ← Int.add_assoc], Hb5.out⟩
          case measure => simp [intOf]; omega
    · have Hq := hide (show q = segsI b s i by omega)
      go_wp2_with fail
      clear c0 c1 c2 hq
      rw [Hq.out]
      refine (segs_any b s i _).mono ?_
      rintro e w5 ⟨rfl, hb5⟩
      have Hb5 := hide (box_next Hb3.out hb5)
      obtain ⟨c0, c1, c2⟩ := box3 Hb5.out
      clear hb5
      by_cases hN : segsI b s i = 0
      · have hN' : (segsI b s i == 0) = true := by rw [beq_iff_eq]; exact hN
        clear hN
        go_wp2_with fail
        go_ret
        exact ⟨rfl, box_end Hb5.out⟩
      · have hN' : (segsI b s i == 0) = false := by rw [beq_eq_false_iff_ne]; exact hN
        obtain ⟨g1, g2, g3, g4, -, -, -⟩ := segsI_pos (by omega : 0 < segsI b s i)
        obtain ⟨f1, f2, f3, f4, f5⟩ := segs_fit (segsI_pos (by omega : 0 < segsI b s i))
        have t1 : 3 + segsI b s i * s ≤ b := by omega
        have t2 : b < 3 + segsI b s i * s + s := by omega
        clear hN
        go_wp2_with fail
        go_ret
        exact ⟨by simp [t1, t2], box_end Hb5.out⟩
end Go.Proofs.Ytdcojnmgipidmaa
