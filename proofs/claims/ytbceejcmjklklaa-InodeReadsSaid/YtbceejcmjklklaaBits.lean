/- Plain facts on 32-bit numbers as natural numbers: the model's bits at u32, and the check sum's steps. No program in sight. -/
import Derived.Laws.BitsAllLaws
import Derived.Laws.BitsLemmas
namespace Go.Proofs.Ytbceejcmjklklaa

theorem ofInt_u32 (a : Nat) (ha : a < 4294967296) : (BitVec.ofInt 32 (a : Int)).toNat = a := by
  rw [BitVec.ofInt_natCast, BitVec.toNat_ofNat]; exact Nat.mod_eq_of_lt (by omega)
theorem u32_xor_nat (a b : Nat) (ha : a < 4294967296) (hb : b < 4294967296) : bits .xor .u32 (a : Int) (b : Int) = ((a ^^^ b : Nat) : Int) := by
  have hx : a ^^^ b < 2 ^ 32 := Nat.xor_lt_two_pow (by omega) (by omega)
  show IntKind.u32.wrap ((BitVec.ofInt 32 (a : Int) ^^^ BitVec.ofInt 32 (b : Int)).toNat : Int) = _
  rw [BitVec.toNat_xor, ofInt_u32 a ha, ofInt_u32 b hb, IntKind.wrap_u32]
  omega
theorem u32_and_nat (a b : Nat) (ha : a < 4294967296) (hb : b < 4294967296) : bits .and .u32 (a : Int) (b : Int) = ((a &&& b : Nat) : Int) := by
  have hx : a &&& b < 2 ^ 32 := Nat.and_lt_two_pow _ (by omega)
  show IntKind.u32.wrap ((BitVec.ofInt 32 (a : Int) &&& BitVec.ofInt 32 (b : Int)).toNat : Int) = _
  rw [BitVec.toNat_and, ofInt_u32 a ha, ofInt_u32 b hb, IntKind.wrap_u32]
  omega
theorem u32_xor_lt (a b : Nat) (ha : a < 4294967296) (hb : b < 4294967296) : a ^^^ b < 4294967296 := Nat.xor_lt_two_pow (n := 32) ha hb

/-- One bit of the check sum. -/
def bit1 (c : Nat) : Nat := (c / 2) ^^^ ((c % 2) * 3988292384)
/-- n bits. -/
def bitN : Nat → Nat → Nat
  | 0, c => c
  | n + 1, c => bitN n (bit1 c)
/-- A byte. -/
def crcByte (c : Nat) (b : UInt8) : Nat := bitN 8 (c ^^^ b.toNat)
/-- Bytes behind a running sum; the inner number stands turned. -/
def crcRun (c : Nat) (l : List UInt8) : Nat := l.foldl crcByte c
/-- The sum with bytes behind. -/
def crcMore (c : Nat) (l : List UInt8) : Nat := (crcRun (c ^^^ 4294967295) l) ^^^ 4294967295
/-- The document's sum. -/
def crc (l : List UInt8) : Nat := crcMore 0 l

theorem bit1_lt (c : Nat) (h : c < 4294967296) : bit1 c < 4294967296 := by
  unfold bit1
  exact Nat.xor_lt_two_pow (n := 32) (by omega) (by omega)
theorem bitN_lt (n c : Nat) (h : c < 4294967296) : bitN n c < 4294967296 := by
  induction n generalizing c with
  | zero => exact h
  | succ n ih => exact ih _ (bit1_lt c h)
theorem bitN_succ (n c : Nat) : bitN (n + 1) c = bit1 (bitN n c) := by
  induction n generalizing c with
  | zero => rfl
  | succ n ih => exact ih (bit1 c)
theorem bitN_add (m n c : Nat) : bitN (m + n) c = bitN m (bitN n c) := by
  induction m with
  | zero => simp [bitN]
  | succ m ih => rw [show m + 1 + n = (m + n) + 1 by omega, bitN_succ, bitN_succ, ih]
theorem mod_xor (a b : Nat) : (a ^^^ b) % 2 = (a % 2) ^^^ (b % 2) := by
  have := Nat.xor_mod_two_pow (a := a) (b := b) (n := 1); simpa using this
theorem div_xor (a b : Nat) : (a ^^^ b) / 2 = (a / 2) ^^^ (b / 2) := by
  have := Nat.shiftRight_xor_distrib (a := a) (b := b) (i := 1); simpa [Nat.shiftRight_succ] using this
theorem xor4 (a b c d : Nat) : (a ^^^ b) ^^^ (c ^^^ d) = (a ^^^ c) ^^^ (b ^^^ d) := by
  rw [Nat.xor_assoc, Nat.xor_assoc, ← Nat.xor_assoc b, ← Nat.xor_assoc c, Nat.xor_comm b c]
theorem bit1_xor (a b : Nat) : bit1 (a ^^^ b) = bit1 a ^^^ bit1 b := by
  unfold bit1
  rw [mod_xor, div_xor]
  have ha : a % 2 = 0 ∨ a % 2 = 1 := by omega
  have hb : b % 2 = 0 ∨ b % 2 = 1 := by omega
  rw [xor4]
  congr 1
  rcases ha with h | h <;> rcases hb with h' | h' <;> rw [h, h'] <;> rfl
theorem bitN_xor (n a b : Nat) : bitN n (a ^^^ b) = bitN n a ^^^ bitN n b := by
  induction n generalizing a b with
  | zero => rfl
  | succ n ih => simp only [bitN]; rw [bit1_xor, ih]
theorem bit1_zero : bit1 0 = 0 := rfl
theorem bitN_zero (n : Nat) : bitN n 0 = 0 := by
  induction n with
  | zero => rfl
  | succ n ih => simp only [bitN, bit1_zero]; exact ih
theorem bit1_even (a : Nat) : bit1 (2 * a) = a := by
  unfold bit1
  rw [show 2 * a / 2 = a by omega, show 2 * a % 2 = 0 by omega]; simp
theorem bitN_pow (n a : Nat) : bitN n (2 ^ n * a) = a := by
  induction n generalizing a with
  | zero => simp [bitN]
  | succ n ih =>
    simp only [bitN]
    rw [show 2 ^ (n + 1) * a = 2 * (2 ^ n * a) by rw [Nat.pow_succ, Nat.mul_comm (2 ^ n) 2, Nat.mul_assoc], bit1_even, ih]
/-- Four bits at once: the low ones by themselves, the others moved. -/
theorem nib (c : Nat) : bitN 4 c = (c / 16) ^^^ bitN 4 (c % 16) := by
  have h : c = (2 ^ 4 * (c / 16)) ^^^ (c % 16) := by
    have h1 : 2 ^ 4 * (c / 16) + c % 16 = c := by omega
    have h2 := Nat.two_pow_add_eq_or_of_lt (i := 4) (b := c % 16) (by omega) (c / 16)
    have h3 : (2 ^ 4 * (c / 16)) &&& (c % 16) = 0 := by
      apply Nat.eq_of_testBit_eq
      intro i
      simp only [Nat.testBit_and, Nat.zero_testBit, Nat.testBit_two_pow_mul]
      by_cases hi : 4 ≤ i
      · have : (c % 16).testBit i = false := Nat.testBit_lt_two_pow (Nat.lt_of_lt_of_le (show c % 16 < 2 ^ 4 by omega) (Nat.pow_le_pow_right (by omega) hi))
        simp [this]
      · simp [hi]
    have h4 : (2 ^ 4 * (c / 16)) ^^^ (c % 16) = (2 ^ 4 * (c / 16)) ||| (c % 16) := by
      apply Nat.eq_of_testBit_eq
      intro i
      have := congrArg (fun n => n.testBit i) h3
      simp only [Nat.testBit_and, Nat.zero_testBit] at this
      simp only [Nat.testBit_xor, Nat.testBit_or]
      revert this
      cases (2 ^ 4 * (c / 16)).testBit i <;> cases (c % 16).testBit i <;> simp
    omega
  conv => lhs; rw [h]
  rw [bitN_xor, bitN_pow]
theorem and15 (c : Nat) : c &&& 15 = c % 16 := Nat.and_two_pow_sub_one_eq_mod c 4
theorem and1 (c : Nat) : c &&& 1 = c % 2 := Nat.and_two_pow_sub_one_eq_mod c 1
theorem and255 (c : Nat) : c &&& 255 = c % 256 := Nat.and_two_pow_sub_one_eq_mod c 8
theorem crcByte_lt (c : Nat) (b : UInt8) (h : c < 4294967296) : crcByte c b < 4294967296 :=
  bitN_lt _ _ (u32_xor_lt _ _ h (by have := b.toNat_lt; omega))
theorem crcRun_lt (c : Nat) (l : List UInt8) (h : c < 4294967296) : crcRun c l < 4294967296 := by
  induction l generalizing c with
  | nil => exact h
  | cons b l ih => exact ih _ (crcByte_lt c b h)
theorem crcMore_lt (c : Nat) (l : List UInt8) (h : c < 4294967296) : crcMore c l < 4294967296 :=
  u32_xor_lt _ _ (crcRun_lt _ _ (u32_xor_lt _ _ h (by omega))) (by omega)
theorem crc_lt (l : List UInt8) : crc l < 4294967296 := crcMore_lt _ _ (by omega)
theorem crcRun_append (c : Nat) (a b : List UInt8) : crcRun c (a ++ b) = crcRun (crcRun c a) b := List.foldl_append
theorem crcMore_append (c : Nat) (a b : List UInt8) : crcMore c (a ++ b) = crcMore (crcMore c a) b := by
  unfold crcMore
  rw [crcRun_append, Nat.xor_assoc (crcRun _ a), Nat.xor_self, Nat.xor_zero]
theorem crcMore_nil (c : Nat) : crcMore c [] = c := by
  unfold crcMore crcRun
  rw [List.foldl_nil, Nat.xor_assoc, Nat.xor_self, Nat.xor_zero]
theorem crc_append (a b : List UInt8) : crc (a ++ b) = crcMore (crc a) b := crcMore_append 0 a b
theorem crcByte_two (c : Nat) (b : UInt8) : crcByte c b = bitN 4 (bitN 4 (c ^^^ b.toNat)) := bitN_add 4 4 _

end Go.Proofs.Ytbceejcmjklklaa
