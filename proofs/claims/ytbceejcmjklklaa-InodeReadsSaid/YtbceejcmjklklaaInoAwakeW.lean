/- The fixed fact of marllaw05; Blocks, and the reference's. -/
import Derived.Test.YtbceejcmjklklaaInoEncW
namespace Go.Proofs.Ytbceejcmjklklaa
open Go.RowKit

/-- How many blocks hold so many bytes. -/
def blkN (n : Int) : Int := if n < 1 then 0 else (n - 1) / 64 + 1
theorem blkN_no {n : Int} (h : n < 1) : blkN n = 0 := if_pos h
theorem blkN_yes {n : Int} (h : ¬ n < 1) : blkN n = (n - 1) / 64 + 1 := if_neg h
theorem blocks_any (n : Int) (w : World) (h1 : -9223372036854775808 ≤ n) (h2 : n ≤ 9223372036854775807) :
    Calls Try.prog 11 #[.int .i64 n] w fun e w' => e = .returned (.int .i64 (blkN n)) ∧ w = w' := by
  by_cases h : n < 1
  · rw [blkN_no h]
    go_enter Try.func11, Try.ntmps11
    go_wp2
    go_ret
    exact ⟨rfl, rfl⟩
  · rw [blkN_yes h]
    go_enter Try.func11, Try.ntmps11
    go_wp2
    go_ret
    exact ⟨rfl, rfl⟩
theorem rblocks_any (n : Int) (w : World) (h1 : -9223372036854775808 ≤ n) (h2 : n ≤ 9223372036854775807) :
    Calls Try.prog 12 #[.int .i64 n] w fun e w' => e = .returned (.int .i64 (blkN n)) ∧ w = w' := by
  by_cases h : n < 1
  · rw [blkN_no h]
    go_enter Try.func12, Try.ntmps12
    go_wp2
    go_ret
    exact ⟨rfl, rfl⟩
  · by_cases hm : 0 < n % 64
    · have e : blkN n = n / 64 + 1 := by rw [blkN_yes h]; omega
      rw [e]
      clear e
      go_enter Try.func12, Try.ntmps12
      go_wp2
      go_ret
      exact ⟨rfl, rfl⟩
    · have e : blkN n = n / 64 := by rw [blkN_yes h]; omega
      rw [e]
      clear e
      go_enter Try.func12, Try.ntmps12
      go_wp2
      go_ret
      exact ⟨rfl, rfl⟩

theorem ino22 : InoP (2 : Nat) (0 : Nat) (2 : Nat) (0 : Nat) (0 : Nat) := by unfold InoP; decide
theorem ino22_head : (sealed (inoBytes 2 0 2 0 0 [0, 0, 0, 0, 0, 0, 0, 0, 0])).take 5 = [2, 0, 0, 0, 2] := by rfl

set_option maxRecDepth 100000 in
set_option maxHeartbeats 1000000 in
theorem awake_any (w : World) : Calls Try.prog 10 #[] w fun e w' => e = .returned (.bool true) ∧ Below w.heap.size w w' := by
  have q0 : blkN 0 = 0 := by decide
  have q1 : blkN 64 = 1 := by decide
  have q2 : blkN 65 = 2 := by decide
  have Q0 := hide q0
  have Q1 := hide q1
  have Q2 := hide q2
  clear q0 q1 q2
  go_enter Try.func10, Try.ntmps10
  go_wp2_with fail
  refine (enc_yes 2 0 2 0 0 0 0 0 0 0 0 0 0 0 _ ino22 (by omega) (by omega) (by omega) (by omega) (by omega) (by omega) (by omega) (by omega) (by omega)).mono ?_
  rintro e w1 ⟨A, c, rfl, hown, hb⟩
  have Hb := hide hb
  have hc5 : 64 ≤ c := by
    obtain ⟨_, _, e, h1, _⟩ := own_form hown
    injection e with e1 e2 e3
    omega
  have e1 := run_cut_h (P := Try.prog) ety8 A 64 c w1 5 .i64 (by omega)
  have hh := Sl.head hown.by (k := 5) (by omega)
  rw [u8s_take, ino22_head] at hh
  have e2 := run_conv_txt (P := Try.prog) w1 Try.underlying29 Try.underlying5 Try.underlying9 c hh
  have e3 : (txt [2, 0, 0, 0, 2]).toList = [2, 0, 0, 0, 2] := by decide +kernel
  clear hh hown hb
  go_wp2_with fail
  refine (blocks_any 0 _ (by omega) (by omega)).mono ?_
  rintro e w' ⟨rfl, rfl⟩
  rw [Q0.out]
  go_wp2_with fail
  refine (blocks_any 64 _ (by omega) (by omega)).mono ?_
  rintro e w' ⟨rfl, rfl⟩
  rw [Q1.out]
  go_wp2_with fail
  refine (blocks_any 65 _ (by omega) (by omega)).mono ?_
  rintro e w' ⟨rfl, rfl⟩
  rw [Q2.out]
  go_wp2_with fail
  go_ret
  exact ⟨rfl, Hb.out⟩

set_option maxHeartbeats 1000000 in
theorem blocks_law (n : Int) (w : World) (h1 : -9223372036854775808 ≤ n) (h2 : n ≤ 9223372036854775807) :
    Calls Try.prog 3 #[.int .i64 n] w fun e w' => e = .returned (.bool true) ∧ Below w.heap.size w w' := by
  by_cases h : n < 1
  · have Q := hide (blkN_no h)
    go_enter Try.func3, Try.ntmps3
    go_wp2_with fail
    refine (awake_any _).mono ?_
    rintro e w1 ⟨rfl, hb⟩
    have Hb := hide hb
    clear hb
    go_wp2_with fail
    refine (blocks_any n _ h1 h2).mono ?_
    rintro e w' ⟨rfl, rfl⟩
    rw [Q.out]
    go_wp2_with fail
    refine (rblocks_any n _ h1 h2).mono ?_
    rintro e w' ⟨rfl, rfl⟩
    rw [Q.out]
    go_wp2_with fail
    go_ret
    exact ⟨rfl, Hb.out⟩
  · have Q := hide (blkN_yes h)
    go_enter Try.func3, Try.ntmps3
    go_wp2_with fail
    refine (awake_any _).mono ?_
    rintro e w1 ⟨rfl, hb⟩
    have Hb := hide hb
    clear hb
    go_wp2_with fail
    refine (blocks_any n _ h1 h2).mono ?_
    rintro e w' ⟨rfl, rfl⟩
    go_wp2_with fail
    refine (rblocks_any n _ h1 h2).mono ?_
    rintro e w' ⟨rfl, rfl⟩
    have hd1 : 0 ≤ blkN n := by rw [Q.out]; omega
    have hd2 : blkN n ≤ 144115188075855872 := by rw [Q.out]; omega
    have hd3 : 1 ≤ n - (blkN n - 1) * 64 := by rw [Q.out]; omega
    have hd4 : n - (blkN n - 1) * 64 ≤ 64 := by rw [Q.out]; omega
    generalize blkN n = b at *
    clear Q
    go_wp2_with fail
    go_ret
    exact ⟨rfl, Hb.out⟩
end Go.Proofs.Ytbceejcmjklklaa
