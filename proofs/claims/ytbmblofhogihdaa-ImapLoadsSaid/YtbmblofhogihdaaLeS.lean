/- Numbers as their lowest bytes. No program in sight. -/
import Derived.Test.YtbmblofhogihdaaMem
namespace Go.Proofs.Ytbmblofhogihdaa
open Go.RowKit

/-- A number's lowest bytes. -/
def leN (n k : Nat) : List UInt8 := (List.range k).map fun i => UInt8.ofNat (n / 256 ^ i)
theorem leN_length (n k : Nat) : (leN n k).length = k := by simp [leN]
theorem leN_succ (n k : Nat) : leN n (k + 1) = leN n k ++ [UInt8.ofNat (n / 256 ^ k)] := by simp [leN, List.range_succ]
theorem leN_two (n : Nat) : leN n 2 = [UInt8.ofNat n, UInt8.ofNat (n / 256)] := by simp [leN, List.range_succ]
/-- The number that bytes are. -/
def numL : List UInt8 → Nat
  | [] => 0
  | b :: l => b.toNat + 256 * numL l
theorem numL_snoc (l : List UInt8) (b : UInt8) : numL (l ++ [b]) = numL l + b.toNat * 256 ^ l.length := by
  induction l with
  | nil => simp [numL]
  | cons x l ih => simp only [List.cons_append, numL, ih, List.length_cons, Nat.pow_succ]; rw [Nat.mul_add]; rw [show 256 * (b.toNat * 256 ^ l.length) = b.toNat * (256 ^ l.length * 256) by rw [Nat.mul_comm 256, Nat.mul_assoc]]; omega
theorem numL_lt (l : List UInt8) : numL l < 256 ^ l.length := by
  induction l with
  | nil => simp [numL]
  | cons x l ih =>
    have := x.toNat_lt
    simp only [numL, List.length_cons, Nat.pow_succ]
    omega
theorem numL_leN (n k : Nat) : numL (leN n k) = n % 256 ^ k := by
  induction k with
  | zero => simp [leN, numL, Nat.mod_one]
  | succ k ih => rw [leN_succ, numL_snoc, ih, leN_length, Nat.mod_pow_succ, UInt8.toNat_ofNat', Nat.mul_comm]
theorem leN_inj {a b k : Nat} (ha : a < 256 ^ k) (hb : b < 256 ^ k) (h : leN a k = leN b k) : a = b := by
  have := congrArg numL h
  rw [numL_leN, numL_leN, Nat.mod_eq_of_lt ha, Nat.mod_eq_of_lt hb] at this
  exact this
theorem ofInt_i64 (a : Nat) (ha : a < 9223372036854775808) : (BitVec.ofInt 64 (a : Int)).toNat = a := by
  rw [BitVec.ofInt_natCast, BitVec.toNat_ofNat]; exact Nat.mod_eq_of_lt (by omega)
theorem i64_or_nat (a b : Nat) (ha : a < 9223372036854775808) (hb : b < 9223372036854775808) : bits .or .i64 (a : Int) (b : Int) = ((a ||| b : Nat) : Int) := by
  have hx : a ||| b < 2 ^ 63 := Nat.or_lt_two_pow (by omega) (by omega)
  show IntKind.i64.wrap ((BitVec.ofInt 64 (a : Int) ||| BitVec.ofInt 64 (b : Int)).toNat : Int) = _
  rw [BitVec.toNat_or, ofInt_i64 a ha, ofInt_i64 b hb, IntKind.wrap_i64]
  omega
theorem or_num (a b k : Nat) (ha : a < 256 ^ k) (hb : b < 256) (hk : k ≤ 6) : bits .or .i64 (a : Int) ((b : Int) * 2 ^ (8 * k)) = ((a + b * 256 ^ k : Nat) : Int) := by
  have e : (256 : Nat) ^ k = 2 ^ (8 * k) := by rw [show (256 : Nat) = 2 ^ 8 by decide, ← Nat.pow_mul]
  have h1 : 2 ^ (8 * k) ≤ 2 ^ 48 := Nat.pow_le_pow_right (by omega) (by omega)
  have h2 : b * 2 ^ (8 * k) ≤ 256 * 2 ^ 48 := Nat.mul_le_mul (by omega) h1
  rw [e] at ha ⊢
  rw [show ((b : Int) * 2 ^ (8 * k)) = ((b * 2 ^ (8 * k) : Nat) : Int) by rw [Int.natCast_mul, Int.natCast_pow]; rfl]
  rw [i64_or_nat _ _ (by omega) (by omega), Nat.mul_comm b, Nat.or_comm, ← Nat.two_pow_add_eq_or_of_lt ha, Nat.add_comm]
/-- The number that stands at a place. -/
def fld (l : List UInt8) (i n : Nat) : Nat := numL ((l.drop i).take n)
theorem fld_lt (l : List UInt8) (i n : Nat) : fld l i n < 256 ^ n := by
  have h := numL_lt ((l.drop i).take n)
  have h2 : ((l.drop i).take n).length ≤ n := List.length_take_le _ _
  exact Nat.lt_of_lt_of_le h (Nat.pow_le_pow_right (by omega) h2)
theorem drop_take2 {l : List UInt8} {i : Nat} (h : i + 1 < l.length) : (l.drop i).take 2 = [l[i], l[i + 1]] := by
  rw [List.drop_eq_getElem_cons (by omega), List.drop_eq_getElem_cons (by omega)]
  rfl
theorem fld2_eq {l : List UInt8} {i : Nat} (h : i + 1 < l.length) : fld l i 2 = l[i].toNat + 256 * l[i + 1].toNat := by
  unfold fld
  rw [drop_take2 h]
  simp [numL]
theorem fld2_leN {l : List UInt8} {i x : Nat} {pre rest : List UInt8} (h : l = pre ++ (leN x 2 ++ rest)) (hi : pre.length = i) : fld l i 2 = x % 65536 := by
  unfold fld
  rw [h, List.drop_left' hi, List.take_left' (leN_length x 2), numL_leN]
end Go.Proofs.Ytbmblofhogihdaa
