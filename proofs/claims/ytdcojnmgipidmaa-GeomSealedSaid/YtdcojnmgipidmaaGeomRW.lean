/- The walks over marlref03: Segs, Of; and the fixed fact of marllaw03. -/
import Derived.Test.YtdcojnmgipidmaaGeomW
namespace Go.Proofs.Ytdcojnmgipidmaa
open Go.RowKit

set_option maxHeartbeats 1000000 in
theorem rsegs_range (b s i : Int) (w : World) (h : ¬ (64 ≤ b ∧ b ≤ 4096 ∧ 8 ≤ s ∧ s ≤ 64 ∧ 4 ≤ i ∧ i ≤ 200)) :
    Calls Try.prog 10 #[geoV b s i] w fun e w' => e = .returned (.int .i64 0) ∧ Below w.heap.size w w' := by
  rcases ref_no h with h1 | ⟨h1, h2⟩ | ⟨⟨h1, h2⟩, h3⟩ | ⟨⟨h1, h2⟩, h3, h4⟩ | ⟨⟨h1, h2⟩, ⟨h3, h4⟩, h5⟩ | ⟨⟨h1, h2⟩, ⟨h3, h4⟩, h5, h6⟩
  all_goals
    clear h
    go_enter Try.func10, Try.ntmps10
    go_wp2
    go_ret
    exact ⟨rfl, (Below.refl _ _).alloc (Nat.le_refl _) _⟩

set_option maxHeartbeats 1000000 in
theorem rsegs_any (b s i : Int) (w : World) :
    Calls Try.prog 10 #[geoV b s i] w fun e w' => e = .returned (.int .i64 (segsI b s i)) ∧ Below w.heap.size w w' := by
  by_cases hr : 64 ≤ b ∧ b ≤ 4096 ∧ 8 ≤ s ∧ s ≤ 64 ∧ 4 ≤ i ∧ i ≤ 200
  · have Hs : Hid (segsI b s i = if (b - 3) / s < 6 then 0 else (b - 3) / s) := by
      by_cases h6 : (b - 3) / s < 6
      · refine hide ?_
        rw [segsI_no (fun h => by have := h.2.2.2.2.2.2; omega), if_pos h6]
      · refine hide ?_
        rw [segsI_yes ⟨hr.1, hr.2.1, hr.2.2.1, hr.2.2.2.1, hr.2.2.2.2.1, hr.2.2.2.2.2, by omega⟩, if_neg h6]
    obtain ⟨h1, h2, h3, h4, h5, h6⟩ := hr
    obtain ⟨d1, d2, -, -⟩ := div_bd h1 h2 h3
    go_enter Try.func10, Try.ntmps10
    go_wp2
    go_loop [3] (fun v => ∃ n : Int, 0 ≤ n ∧ n ≤ (b - 3) / s ∧ v = .int .i64 n) (fun v => ((b - 3) / s - intOf v).toNat)
    case atStart => exact ⟨0, by omega, d1, rfl⟩
    case round =>
      obtain ⟨n, hn0, hn1, rfl⟩ := hrel
      obtain ⟨m1, m2⟩ := mul_bd (n := n + 1) (s := s) (by omega) (by omega) h3 h4
      by_cases hc : 3 + (n + 1) * s ≤ b
      · have hq := seg_more (by omega) hc
        go_wp2
        go_round
        case rel => exact ⟨n + 1, by omega, hq, rfl⟩
        case measure => simp [intOf]; omega
      · have hq := seg_less (by omega) hc
        have Hn := hide (show n = (b - 3) / s by omega)
        by_cases h6 : n < 6
        · go_wp2
          go_ret
          exact ⟨by rw [Hs.out, if_pos (by rw [← Hn.out]; omega)]; rfl, (Below.refl _ _).alloc (Nat.le_refl _) _⟩
        · go_wp2
          go_ret
          exact ⟨by rw [Hs.out, if_neg (by rw [← Hn.out]; omega), ← Hn.out]; rfl, (Below.refl _ _).alloc (Nat.le_refl _) _⟩
  · have H := hide (segsI_no (b := b) (s := s) (i := i) (fun h => hr ⟨h.1, h.2.1, h.2.2.1, h.2.2.2.1, h.2.2.2.2.1, h.2.2.2.2.2.1⟩))
    rw [H.out]
    exact rsegs_range b s i w hr

set_option maxHeartbeats 2000000 in
theorem rof_any (b s i a : Int) (w : World) :
    Calls Try.prog 13 #[geoV b s i, .int .i64 a] w fun e w' => e = .returned (ofV b s i a) ∧ Below w.heap.size w w' := by
  obtain ⟨N0, N1⟩ := segsI_bd b s i
  go_enter Try.func13, Try.ntmps13
  go_wp2_with fail
  go_loopw [7] (fun v wr => ∃ q : Int, 0 ≤ q ∧ q ≤ segsI b s i ∧ v = .int .i64 q ∧ ¬ (3 ≤ a ∧ a < 3 + q * s) ∧ Below (w.heap.size + 1) (w.alloc (.cells #[.int .i64 b, .int .i64 s, .int .i64 i] 26)) wr) (fun v _ => (segsI b s i - intOf v).toNat)
  case atStart => exact ⟨0, by omega, N0, rfl, by omega, Below.refl _ _⟩
  case round =>
    obtain ⟨q, q0, q1, rfl, hnot, hb⟩ := hrel
    have Hnot := hide hnot
    have Hb := hide hb
    have hc0 : wr.cell? ⟨w.heap.size, 0, none⟩ = some (.int .i64 b) := by rw [hb.cell (by simp)]; simp
    have hc1 : wr.cell? ⟨w.heap.size, 1, none⟩ = some (.int .i64 s) := by rw [hb.cell (by simp)]; simp
    have hc2 : wr.cell? ⟨w.heap.size, 2, none⟩ = some (.int .i64 i) := by rw [hb.cell (by simp)]; simp
    clear hb hnot
    go_wp2_with fail
    refine (rsegs_any b s i _).mono ?_
    rintro e w1 ⟨rfl, hb1⟩
    have hsz := Hb.out.size
    simp only [World.size_alloc] at hsz
    have Hb1 := hide (Hb.out.trans (hb1.mono (by omega)))
    have hd1 : w1.cell? ⟨w.heap.size, 1, none⟩ = some (.int .i64 s) := by rw [hb1.cell (show w.heap.size < wr.heap.size by omega)]; exact hc1
    clear hb1 hc0 hc1 hc2
    by_cases hq : q < segsI b s i
    · obtain ⟨g1, g2, g3, g4, -, -, -⟩ := segsI_pos (by omega : 0 < segsI b s i)
      obtain ⟨m1, m2⟩ := mul_bd q0 (by omega) g3 g4
      go_wp2_with fail
      go_loop [8] (fun v => ∃ k : Int, 0 ≤ k ∧ k ≤ s ∧ v = .int .i64 k ∧ ¬ (3 + q * s ≤ a ∧ a < 3 + q * s + k)) (fun v => (s - intOf v).toNat)
      case atStart => exact ⟨0, by omega, by omega, rfl, by omega⟩
      case round =>
        obtain ⟨k, k0, k1, rfl, hnk⟩ := hrel
        have Hnk := hide hnk
        clear hnk
        by_cases hk : k < s
        · by_cases he : a = 3 + q * s + k
          · have hbe : (a == 3 + q * s + k) = true := by rw [beq_iff_eq]; exact he
            have Hf := hide (ofV_found q0 hq k0 hk he)
            clear he
            go_wp2
            go_ret3
            exact ⟨by rw [Hf.out]; rfl, ((Below.refl _ _).alloc (Nat.le_refl _) _).trans (Hb1.out.mono (Nat.le_succ _))⟩
          · have hbe : (a == 3 + q * s + k) = false := by rw [beq_eq_false_iff_ne]; exact he
            have Hne := hide he
            clear he
            go_wp2
            go_round
            case rel => exact ⟨k + 1, by omega, by omega, rfl, by have := Hne.out; have := Hnk.out; omega⟩
            case measure => simp [intOf]; omega
        · have Hks := hide (show k = s by omega)
          go_wp2
          go_roundw
          case rel =>
            refine ⟨q + 1, by omega, by omega, rfl, ?_, Hb1.out⟩
            have h1 := Hnot.out
            have h2 := Hnk.out
            rw [Hks.out] at h2
            rw [Int.add_mul, Int.one_mul]
            omega
          case measure => simp [intOf]; omega
    · have Hq := hide (show q = segsI b s i by omega)
      have Hf := hide (ofV_none (b := b) (s := s) (i := i) (a := a) (by rw [← Hq.out]; exact Hnot.out))
      go_wp2
      go_ret3
      exact ⟨by rw [Hf.out]; rfl, ((Below.refl _ _).alloc (Nat.le_refl _) _).trans (Hb1.out.mono (Nat.le_succ _))⟩
end Go.Proofs.Ytdcojnmgipidmaa
