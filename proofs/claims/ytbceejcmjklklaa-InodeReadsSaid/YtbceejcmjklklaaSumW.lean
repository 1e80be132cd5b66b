/- The walks over package sum: quad, More, Sum. -/
import Derived.Test.YtbceejcmjklklaaProg
import Derived.Test.YtbceejcmjklklaaBits
import Derived.Test.YtbceejcmjklklaaMem
namespace Go.Proofs.Ytbceejcmjklklaa
open Go.RowKit

theorem ret_u32 {a b : Nat} (h : a = b) : Ending.returned (.int .u32 (a : Int)) = .returned (.int .u32 (b : Int)) := by rw [h]
theorem quad_step (c : Nat) (hc : c < 4294967296) :
    bits BinOp.xor IntKind.u32 ((c : Int) / 2) (bits BinOp.and IntKind.u32 (c : Int) 1 * 3988292384 % 4294967296) = ((bit1 c : Nat) : Int) := by
  have h1 : bits BinOp.and IntKind.u32 (c : Int) 1 = ((c % 2 : Nat) : Int) := by
    have := u32_and_nat c 1 hc (by omega); rw [and1] at this; exact this
  have h2 : ((c % 2 : Nat) : Int) * 3988292384 % 4294967296 = ((c % 2 * 3988292384 : Nat) : Int) := by omega
  have h3 : ((c : Int) / 2) = ((c / 2 : Nat) : Int) := by omega
  rw [h1, h2, h3, u32_xor_nat _ _ (by omega) (by omega)]
  rfl

set_option maxHeartbeats 400000 in
theorem quad_any (x : Nat) (hx : x < 4294967296) (w : World) :
    Calls Try.prog 40 #[.int .u32 x] w fun e w' => e = .returned (.int .u32 (bitN 4 x : Nat)) ∧ w = w' := by
  go_enter Try.func40, Try.ntmps40
  go_wp2
  go_loop [0, 3] (fun c i => ∃ k : Nat, k ≤ 4 ∧ i = .int .i64 k ∧ c = .int .u32 (bitN k x : Nat)) (fun _ i => 4 - (intOf i).toNat)
  case atStart => exact ⟨0, by omega, rfl, rfl⟩
  case round =>
    obtain ⟨k, hk, rfl, rfl⟩ := hrel
    have hc := bitN_lt k x hx
    by_cases hlt : k < 4
    · have hq := hide (quad_step (bitN k x) hc) -- (bitN k x) hc
      go_wp2
      go_round
      case rel => exact ⟨k + 1, by omega, by go_num, by rw [hq.out, bitN_succ]⟩
      case measure => simp [intOf]; omega
    · go_wp2
      go_ret
      exact ⟨ret_u32 (by rw [show k = 4 by omega]), rfl⟩

theorem u32_not (c : Nat) (hc : c < 4294967296) : bits BinOp.xor IntKind.u32 IntKind.u32.max (c : Int) = ((c ^^^ 4294967295 : Nat) : Int) := by
  have : IntKind.u32.max = ((4294967295 : Nat) : Int) := rfl
  rw [this, u32_xor_nat _ _ (by omega) hc, Nat.xor_comm]
theorem nib_step (c : Nat) (hc : c < 4294967296) :
    bits BinOp.xor IntKind.u32 ((c : Int) / 16) ((bitN 4 (c % 16) : Nat) : Int) = ((bitN 4 c : Nat) : Int) := by
  have h3 : ((c : Int) / 16) = ((c / 16 : Nat) : Int) := by omega
  rw [h3, u32_xor_nat _ _ (by omega) (bitN_lt _ _ (by omega)), ← nib]
theorem and15_step (c : Nat) (hc : c < 4294967296) : bits BinOp.and IntKind.u32 (c : Int) 15 = ((c % 16 : Nat) : Int) := by
  have := u32_and_nat c 15 hc (by omega); rw [and15] at this; exact this
theorem crcRun_snoc (c : Nat) (l : List UInt8) (k : Nat) (hk : k < l.length) : crcRun c (l.take (k + 1)) = crcByte (crcRun c (l.take k)) l[k] := by
  rw [List.take_succ_eq_append_getElem hk, crcRun_append]; rfl

set_option maxHeartbeats 400000 in
theorem more_any (c : Nat) (hc : c < 4294967296) (A : Option Addr) (n cap B : Nat) (l : List UInt8) (w : World) (h : By w B A n l) (hn : n ≤ 9223372036854775807) :
    Calls Try.prog 38 #[.int .u32 c, .slice A n cap] w fun e w' => e = .returned (.int .u32 (crcMore c l : Nat)) ∧ w = w' := by
  have hs : IntKind.u32.signed = false := rfl
  have hc1 : c ^^^ 4294967295 < 4294967296 := u32_xor_lt _ _ hc (by omega)
  have hnot := hide (u32_not c hc)
  have H := hide h
  clear h
  go_enter Try.func38, Try.ntmps38
  go_wp2
  rw [hnot.out]
  go_loop [5, 12] (fun c' i => ∃ k : Nat, k ≤ n ∧ i = .int .i64 k ∧ c' = .int .u32 (crcRun (c ^^^ 4294967295) (l.take k) : Nat)) (fun _ i => n - (intOf i).toNat)
  case atStart => exact ⟨0, by omega, rfl, rfl⟩
  case round =>
    obtain ⟨k, hk, rfl, rfl⟩ := hrel
    have hcr := crcRun_lt _ (l.take k) hc1
    by_cases hlt : k < n
    · obtain ⟨hl, ad, rfl, hcell⟩ := By.get H.out hlt
      have hsn := hide (crcRun_snoc (c ^^^ 4294967295) l k hl)
      have hb := l[k].toNat_lt
      generalize crcRun (c ^^^ 4294967295) (l.take k) = r at *
      have hsb := hide (crcByte_two r l[k])
      generalize l[k].toNat = b at *
      replace hb : b < 256 := hb
      have hx := u32_xor_lt r b hcr (by omega)
      have hx1 := bitN_lt 4 _ hx
      go_wp2_with fail
      rw [u32_xor_nat r b hcr (by omega), and15_step _ hx]
      refine (quad_any _ (by omega) _).mono ?_
      rintro e w' ⟨rfl, rfl⟩
      go_wp2_with fail
      rw [nib_step _ hx, and15_step _ hx1]
      refine (quad_any _ (by omega) _).mono ?_
      rintro e w' ⟨rfl, rfl⟩
      go_wp2_with fail
      rw [nib_step _ hx1]
      go_round
      case rel => exact ⟨k + 1, by omega, by go_num, by rw [hsn.out, hsb.out]⟩
      case measure => simp [intOf]; omega
    · have hnot2 := hide (u32_not _ hcr)
      have hl := By.length H.out
      have hfin := hide (show crcRun (c ^^^ 4294967295) (l.take k) ^^^ 4294967295 = crcMore c l by
        rw [List.take_of_length_le (by omega)]; rfl)
      clear hl
      go_wp2
      go_ret
      exact ⟨by show Ending.returned (Value.int IntKind.u32 (bits BinOp.xor IntKind.u32 IntKind.u32.max _)) = _; rw [hnot2.out, hfin.out], rfl⟩

theorem sum_any (A : Option Addr) (n cap B : Nat) (l : List UInt8) (w : World) (h : By w B A n l) (hn : n ≤ 9223372036854775807) :
    Calls Try.prog 34 #[.slice A n cap] w fun e w' => e = .returned (.int .u32 (crc l : Nat)) ∧ w = w' := by
  have H := hide h
  clear h
  go_enter Try.func34, Try.ntmps34
  go_wp2_with fail
  refine (more_any 0 (by omega) _ _ _ _ _ _ H.out hn).mono ?_
  rintro e w' ⟨rfl, rfl⟩
  go_wp2_with fail
  go_ret
  exact ⟨rfl, rfl⟩
end Go.Proofs.Ytbceejcmjklklaa
