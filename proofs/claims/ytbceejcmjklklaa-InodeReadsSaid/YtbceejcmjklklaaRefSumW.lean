/- The walks over marlref01: Step, Sum. -/
import Derived.Test.YtbceejcmjklklaaSumW
namespace Go.Proofs.Ytbceejcmjklklaa
open Go.RowKit

theorem bit1_0 (c : Nat) (h : c % 2 = 0) : bit1 c = c / 2 := by unfold bit1; rw [h]; simp
theorem bit1_1 (c : Nat) (h : c % 2 = 1) : bit1 c = (c / 2) ^^^ 3988292384 := by unfold bit1; rw [h]

set_option maxHeartbeats 400000 in
theorem step_any (c b : Nat) (hc : c < 4294967296) (hb : b < 256) (w : World) :
    Calls Try.prog 39 #[.int .u32 c, .int .u8 b] w fun e w' => e = .returned (.int .u32 (bitN 8 (c ^^^ b) : Nat)) ∧ w = w' := by
  have hx := u32_xor_lt c b hc (by omega)
  have hxe := hide (u32_xor_nat c b hc (by omega))
  go_enter Try.func39, Try.ntmps39
  go_wp2
  rw [hxe.out]
  generalize hxy : c ^^^ b = x at *
  have Hxy := hide hxy
  clear hxy
  go_loop [0, 5] (fun c' i => ∃ k : Nat, k ≤ 8 ∧ i = .int .i64 k ∧ c' = .int .u32 (bitN k x : Nat)) (fun _ i => 8 - (intOf i).toNat)
  case atStart => exact ⟨0, by omega, rfl, rfl⟩
  case round =>
    obtain ⟨k, hk, rfl, rfl⟩ := hrel
    have hr := bitN_lt k x hx
    have hsn := hide (bitN_succ k x)
    generalize hre : bitN k x = r at *
    have Hre := hide hre
    clear hre
    by_cases hlt : k < 8
    · have h2 : r % 2 = 0 ∨ r % 2 = 1 := by omega
      rcases h2 with h0 | h1
      · have hbit := hide (bit1_0 r h0)
        have ht : (((r : Int) % 2 == 1) = false) := by rw [beq_eq_false_iff_ne]; omega
        clear h0
        go_wp2
        go_round
        case rel => exact ⟨k + 1, by omega, by go_num, by rw [hsn.out, hbit.out]; go_num⟩
        case measure => simp [intOf]; omega
      · have hbit := hide (bit1_1 r h1)
        have ht : (((r : Int) % 2 == 1) = true) := by rw [beq_iff_eq]; omega
        have hxx := hide (u32_xor_nat (r / 2) 3988292384 (by omega) (by omega))
        clear h1
        go_wp2
        go_round
        case rel => exact ⟨k + 1, by omega, by go_num, by rw [hsn.out, hbit.out, ← hxx.out]; go_num⟩
        case measure => simp [intOf]; omega
    · go_wp2
      go_ret
      exact ⟨ret_u32 (by rw [← Hre.out, show k = 8 by omega, Hxy.out]), rfl⟩

set_option maxHeartbeats 400000 in
theorem rsum_any (A : Option Addr) (n cap B : Nat) (l : List UInt8) (w : World) (h : By w B A n l) (hn : n ≤ 9223372036854775807) :
    Calls Try.prog 36 #[.slice A n cap] w fun e w' => e = .returned (.int .u32 (crc l : Nat)) ∧ w = w' := by
  have H := hide h
  clear h
  go_enter Try.func36, Try.ntmps36
  go_wp2
  go_loop [3, 4] (fun c' i => ∃ k : Nat, k ≤ n ∧ i = .int .i64 k ∧ c' = .int .u32 (crcRun 4294967295 (l.take k) : Nat)) (fun _ i => n - (intOf i).toNat)
  case atStart => exact ⟨0, by omega, rfl, rfl⟩
  case round =>
    obtain ⟨k, hk, rfl, rfl⟩ := hrel
    have hcr := crcRun_lt 4294967295 (l.take k) (by omega)
    by_cases hlt : k < n
    · obtain ⟨hl, ad, rfl, hcell⟩ := By.get H.out hlt
      have hsn := hide (crcRun_snoc 4294967295 l k hl)
      generalize crcRun 4294967295 (l.take k) = r at *
      have hsb := hide (show crcByte r l[k] = bitN 8 (r ^^^ l[k].toNat) from rfl)
      have hb := l[k].toNat_lt
      generalize l[k].toNat = b at *
      replace hb : b < 256 := hb
      go_wp2_with fail
      refine (step_any r b hcr hb _).mono ?_
      rintro e w' ⟨rfl, rfl⟩
      go_wp2_with fail
      go_round
      case rel => exact ⟨k + 1, by omega, by go_num, by rw [hsn.out, hsb.out]⟩
      case measure => simp [intOf]; omega
    · have hl := By.length H.out
      have hfin := hide (show crcRun 4294967295 (l.take k) ^^^ 4294967295 = crc l by
        rw [List.take_of_length_le (by omega)]; rfl)
      have hxx := hide (u32_xor_nat _ 4294967295 hcr (by omega))
      clear hl
      go_wp2
      go_ret
      exact ⟨by rw [← hfin.out, ← hxx.out]; rfl, rfl⟩
end Go.Proofs.Ytbceejcmjklklaa
