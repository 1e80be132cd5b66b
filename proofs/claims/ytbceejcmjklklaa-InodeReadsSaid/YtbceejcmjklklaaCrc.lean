/- Plain laws of the check sum: it is linear; one bit, two bits, and any within 32 in a row, are told. No program in sight. -/
import Derived.Test.YtbceejcmjklklaaBits
namespace Go.Proofs.Ytbceejcmjklklaa

theorem xor_zero_iff {a b : Nat} : a ^^^ b = 0 ↔ a = b := by
  constructor
  · intro h
    have := congrArg (· ^^^ b) h
    simpa [Nat.xor_assoc] using this
  · intro h; rw [h, Nat.xor_self]
theorem bit1_lt31 (c : Nat) (h : c < 4294967296) (he : c % 2 = 0) : bit1 c < 2147483648 := by unfold bit1; rw [he]; simp; omega
theorem bit1_inj0 (c : Nat) (h : c < 4294967296) (h0 : bit1 c = 0) : c = 0 := by
  unfold bit1 at h0
  have h2 : c / 2 = c % 2 * 3988292384 := xor_zero_iff.1 h0
  omega
theorem bitN_inj0 (n c : Nat) (h : c < 4294967296) (h0 : bitN n c = 0) : c = 0 := by
  induction n generalizing c with
  | zero => exact h0
  | succ n ih => exact bit1_inj0 c h (ih _ (bit1_lt c h) h0)
theorem bitN_inj (n a b : Nat) (ha : a < 4294967296) (hb : b < 4294967296) (h : bitN n a = bitN n b) : a = b := by
  have h0 : bitN n (a ^^^ b) = 0 := by rw [bitN_xor, h, Nat.xor_self]
  exact xor_zero_iff.1 (bitN_inj0 n _ (u32_xor_lt a b ha hb) h0)

/-- The powers of the step do not come back to one within so many. -/
def noOne : Nat → Nat → Bool
  | 0, _ => true
  | n + 1, c => bit1 c != 1 && noOne n (bit1 c)
theorem noOne_at (n : Nat) : ∀ (c d : Nat), noOne n c = true → 0 < d → d ≤ n → bitN d c ≠ 1 := by
  induction n with
  | zero => intro c d _ h1 h2; omega
  | succ n ih =>
    intro c d h h1 h2
    simp only [noOne, Bool.and_eq_true, bne_iff_ne, ne_eq] at h
    obtain ⟨d, rfl⟩ : ∃ k, d = k + 1 := ⟨d - 1, by omega⟩
    rcases Nat.eq_zero_or_pos d with rfl | hd
    · exact h.1
    · exact ih (bit1 c) d h.2 hd (by omega)
theorem noOne_16000 : noOne 16000 1 = true := by decide +kernel
theorem pow_inj (i j : Nat) (hi : i ≤ 16000) (hj : j ≤ 16000) (h : bitN i 1 = bitN j 1) : i = j := by
  have key : ∀ i j : Nat, i ≤ j → j ≤ 16000 → bitN i 1 = bitN j 1 → i = j := by
    intro i j hij hj h
    rcases Nat.eq_or_lt_of_le hij with e | hlt
    · exact e
    · exfalso
      have h2 : bitN j 1 = bitN i (bitN (j - i) 1) := by rw [← bitN_add, show i + (j - i) = j by omega]
      rw [h2] at h
      have h3 := bitN_inj i 1 _ (by omega) (bitN_lt _ _ (by omega)) h
      exact noOne_at 16000 1 (j - i) noOne_16000 (by omega) (by omega) h3.symm
  rcases Nat.le_total i j with hij | hij
  · exact key i j hij hj h
  · exact (key j i hij hi h.symm).symm

theorem crcByte_xor (c d : Nat) (b e : UInt8) : crcByte (c ^^^ d) (b ^^^ e) = crcByte c b ^^^ crcByte d e := by
  unfold crcByte
  rw [UInt8.toNat_xor, xor4, bitN_xor]
theorem crcByte_bits (d : Nat) : crcByte d 0 = bitN 8 d := by unfold crcByte; simp
theorem crcByte_left (c d : Nat) (b : UInt8) : crcByte (c ^^^ d) b = crcByte c b ^^^ bitN 8 d := by
  have := crcByte_xor c d b 0
  rw [crcByte_bits] at this
  simpa using this
theorem crcRun_left (c d : Nat) (l : List UInt8) : crcRun (c ^^^ d) l = crcRun c l ^^^ bitN (8 * l.length) d := by
  induction l generalizing c d with
  | nil => rfl
  | cons b l ih =>
    show crcRun (crcByte (c ^^^ d) b) l = crcRun (crcByte c b) l ^^^ _
    rw [crcByte_left, ih, ← bitN_add]
    rw [show 8 * (b :: l).length = 8 * l.length + 8 by rw [List.length_cons]; omega]
/-- The sum of turned bytes: the one's, turned by what hangs on the others alone. -/
theorem crcRun_zip (c d : Nat) (a x : List UInt8) (h : a.length = x.length) : crcRun (c ^^^ d) (List.zipWith (· ^^^ ·) a x) = crcRun c a ^^^ crcRun d x := by
  induction a generalizing c d x with
  | nil =>
    have : x = [] := List.eq_nil_of_length_eq_zero (by simpa using h.symm)
    subst this; rfl
  | cons b a ih =>
    match x, h with
    | e :: x, h =>
      show crcRun (crcByte (c ^^^ d) (b ^^^ e)) (List.zipWith (· ^^^ ·) a x) = _
      rw [crcByte_xor, ih _ _ _ (by simpa using h)]; rfl
theorem crc_zip (a x : List UInt8) (h : a.length = x.length) : crc (List.zipWith (· ^^^ ·) a x) ^^^ crc a = crcRun 0 x := by
  unfold crc crcMore
  have := crcRun_zip (0 ^^^ 4294967295) 0 a x h
  rw [Nat.xor_zero] at this
  rw [this]
  generalize crcRun (0 ^^^ 4294967295) a = s
  generalize crcRun 0 x = t
  rw [Nat.xor_comm s t, Nat.xor_assoc t, Nat.xor_assoc t, Nat.xor_self, Nat.xor_zero]

/-- One bit turned. -/
def turn (l : List UInt8) (k : Nat) : List UInt8 := l.set (k / 8) (l.getD (k / 8) 0 ^^^ UInt8.ofNat (2 ^ (k % 8)))
theorem turn_length (l : List UInt8) (k : Nat) : (turn l k).length = l.length := by simp [turn]
theorem pow_small (j : Nat) (h : j < 8) : (UInt8.ofNat (2 ^ j)).toNat = 2 ^ j := by
  rw [UInt8.toNat_ofNat']
  have : 2 ^ j < 2 ^ 8 := Nat.pow_lt_pow_right (by omega) h
  exact Nat.mod_eq_of_lt this
theorem bitN_down (m j : Nat) (h : j ≤ m) : bitN m (2 ^ j) = bitN (m - j) 1 := by
  have := bitN_pow j 1
  rw [Nat.mul_one] at this
  rw [show m = (m - j) + j by omega, bitN_add, this, show m - j + j - j = m - j by omega]
theorem crcRun_turn (c : Nat) (l : List UInt8) (k : Nat) (hk : k < 8 * l.length) : crcRun c (turn l k) = crcRun c l ^^^ bitN (8 * l.length - k) 1 := by
  induction l generalizing c k with
  | nil => simp at hk
  | cons b t ih =>
    have hl : 8 * (b :: t).length = 8 * t.length + 8 := by rw [List.length_cons]; omega
    rw [hl] at hk ⊢
    by_cases h8 : k < 8
    · have e : turn (b :: t) k = (b ^^^ UInt8.ofNat (2 ^ k)) :: t := by
        unfold turn; rw [show k / 8 = 0 by omega, show k % 8 = k by omega]; rfl
      rw [e]
      show crcRun (crcByte c (b ^^^ UInt8.ofNat (2 ^ k))) t = crcRun (crcByte c b) t ^^^ _
      have h0 := crcByte_xor c 0 b (UInt8.ofNat (2 ^ k))
      rw [Nat.xor_zero] at h0
      have h1 : crcByte 0 (UInt8.ofNat (2 ^ k)) = bitN (8 - k) 1 := by
        unfold crcByte
        rw [pow_small k h8, Nat.zero_xor, bitN_down 8 k (by omega)]
      rw [h0, h1, crcRun_left, ← bitN_add, show 8 * t.length + (8 - k) = 8 * t.length + 8 - k by omega]
    · have e : turn (b :: t) k = b :: turn t (k - 8) := by
        unfold turn
        rw [show k / 8 = (k - 8) / 8 + 1 by omega, show (k - 8) % 8 = k % 8 by omega]; rfl
      rw [e]
      show crcRun (crcByte c b) (turn t (k - 8)) = crcRun (crcByte c b) t ^^^ _
      rw [ih _ _ (by omega), show 8 * t.length - (k - 8) = 8 * t.length + 8 - k by omega]
theorem crc_turn (l : List UInt8) (k : Nat) (hk : k < 8 * l.length) : crc (turn l k) = crc l ^^^ bitN (8 * l.length - k) 1 := by
  unfold crc crcMore
  rw [crcRun_turn _ _ _ hk]
  generalize crcRun (0 ^^^ 4294967295) l = s
  rw [Nat.xor_assoc, Nat.xor_comm (bitN _ 1), ← Nat.xor_assoc]
theorem turn_turn (l : List UInt8) (k : Nat) (hk : k < 8 * l.length) : turn (turn l k) k = l := by
  unfold turn
  have h8 : k / 8 < l.length := by omega
  rw [List.set_set, List.getD_eq_getElem?_getD, List.getElem?_set_self h8, Option.getD_some, UInt8.xor_assoc, UInt8.xor_self, UInt8.xor_zero,
    List.getD_eq_getElem?_getD, List.getElem?_eq_getElem h8, Option.getD_some, List.set_getElem_self]
theorem xor_ne_self {a b : Nat} (h : b ≠ 0) : a ^^^ b ≠ a := by
  intro e
  apply h
  have := congrArg (a ^^^ ·) e
  simpa [← Nat.xor_assoc] using this
/-- One bit turned changes the sum. -/
theorem crc_turn_ne (l : List UInt8) (k : Nat) (hk : k < 8 * l.length) : crc (turn l k) ≠ crc l := by
  rw [crc_turn l k hk]
  exact xor_ne_self (fun h => by have := bitN_inj0 _ 1 (by omega) h; omega)
/-- Two bits turned: the sum is the same just if they are one. -/
theorem crc_turn2 (l : List UInt8) (x y : Nat) (hx : x < 8 * l.length) (hy : y < 8 * l.length) (hl : l.length ≤ 2000) : crc (turn (turn l x) y) = crc l ↔ x = y := by
  constructor
  · intro h
    rw [crc_turn _ y (by rw [turn_length]; exact hy), crc_turn l x hx, turn_length, Nat.xor_assoc] at h
    have h2 : bitN (8 * l.length - x) 1 ^^^ bitN (8 * l.length - y) 1 = 0 := by
      rcases Nat.eq_zero_or_pos (bitN (8 * l.length - x) 1 ^^^ bitN (8 * l.length - y) 1) with h0 | h0
      · exact h0
      · exact absurd h (xor_ne_self (by omega))
    have := pow_inj _ _ (by omega) (by omega) (xor_zero_iff.1 h2)
    omega
  · rintro rfl
    rw [turn_turn l x hx]
/-- So many bits of a row, from x on. -/
def burst (l : List UInt8) (x row : Nat) : Nat → List UInt8
  | 0 => l
  | i + 1 => if row / 2 ^ i % 2 = 1 then turn (burst l x row i) (x + i) else burst l x row i
theorem burst_length (l : List UInt8) (x row i : Nat) : (burst l x row i).length = l.length := by
  induction i with
  | zero => rfl
  | succ i ih => unfold burst; split <;> simp [turn_length, ih]
theorem crc_burst (l : List UInt8) (x row i : Nat) (h : x + i ≤ 8 * l.length) : crc (burst l x row i) = crc l ^^^ bitN (8 * l.length - x) (row % 2 ^ i) := by
  induction i with
  | zero => simp [burst, Nat.mod_one, bitN_zero]
  | succ i ih =>
    have ih := ih (by omega)
    have hm : row % 2 ^ (i + 1) = row % 2 ^ i + 2 ^ i * (row / 2 ^ i % 2) := by rw [Nat.pow_succ, Nat.mod_mul]
    unfold burst
    split
    · rename_i h1
      rw [h1, Nat.mul_one] at hm
      have hx : row % 2 ^ i + 2 ^ i = row % 2 ^ i ^^^ 2 ^ i := by
        have hlt : row % 2 ^ i < 2 ^ i := Nat.mod_lt _ (Nat.two_pow_pos i)
        apply Nat.eq_of_testBit_eq
        intro j
        rw [Nat.add_comm, Nat.testBit_xor, Nat.testBit_two_pow]
        rcases Nat.lt_trichotomy i j with hij | rfl | hij
        · have h1 : (row % 2 ^ i).testBit j = false := Nat.testBit_lt_two_pow (Nat.lt_of_lt_of_le hlt (Nat.pow_le_pow_right (by omega) (by omega)))
          have h2 : (2 ^ i + row % 2 ^ i).testBit j = false := Nat.testBit_lt_two_pow (Nat.lt_of_lt_of_le (show 2 ^ i + row % 2 ^ i < 2 ^ (i + 1) by rw [Nat.pow_succ]; omega) (Nat.pow_le_pow_right (by omega) (by omega)))
          have hd : decide (i = j) = false := decide_eq_false (by omega)
          rw [h1, h2, hd]; rfl
        · have h1 : (row % 2 ^ i).testBit i = false := Nat.testBit_lt_two_pow hlt
          rw [Nat.testBit_two_pow_add_eq, h1]; simp
        · have hd : decide (i = j) = false := decide_eq_false (by omega)
          rw [Nat.testBit_two_pow_add_gt hij, hd, Bool.xor_false]
      rw [crc_turn _ _ (by rw [burst_length]; omega), ih, burst_length, hm, hx, bitN_xor, Nat.xor_assoc, bitN_down _ i (by omega), show 8 * l.length - (x + i) = 8 * l.length - x - i by omega]
    · rename_i h1
      have h0 : row / 2 ^ i % 2 = 0 := by omega
      rw [h0] at hm
      rw [ih, hm, Nat.mul_zero, Nat.add_zero]
/-- Whatever of a row of at most 32 bits is turned: the sum is the same just if nothing is. -/
theorem crc_burst_iff (l : List UInt8) (x row i : Nat) (h : x + i ≤ 8 * l.length) (hi : i ≤ 32) : crc (burst l x row i) = crc l ↔ burst l x row i = l := by
  constructor
  · intro e
    rw [crc_burst l x row i h] at e
    have hm : row % 2 ^ i < 2 ^ i := Nat.mod_lt _ (Nat.two_pow_pos i)
    have h0 : row % 2 ^ i = 0 := by
      rcases Nat.eq_zero_or_pos (bitN (8 * l.length - x) (row % 2 ^ i)) with h0 | h0
      · exact bitN_inj0 _ _ (Nat.lt_of_lt_of_le hm (Nat.pow_le_pow_right (n := 2) (by omega) hi)) h0
      · exact absurd e (xor_ne_self (by omega))
    clear e h hi hm
    induction i with
    | zero => rfl
    | succ i ih =>
      have hm : row % 2 ^ (i + 1) = row % 2 ^ i + 2 ^ i * (row / 2 ^ i % 2) := by rw [Nat.pow_succ, Nat.mod_mul]
      rw [hm] at h0
      have h1 : row % 2 ^ i = 0 := by omega
      have h2 : row / 2 ^ i % 2 = 0 := by
        rcases Nat.mul_eq_zero.1 (show 2 ^ i * (row / 2 ^ i % 2) = 0 by omega) with h | h
        · have := Nat.two_pow_pos i; omega
        · exact h
      unfold burst
      rw [if_neg (by omega)]
      exact ih h1
  · intro e; rw [e]

end Go.Proofs.Ytbceejcmjklklaa
