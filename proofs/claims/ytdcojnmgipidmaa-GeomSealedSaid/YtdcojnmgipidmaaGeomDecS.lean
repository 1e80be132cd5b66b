/- Plain facts for reading a geometry's block: bits at int, four bytes as a number, a sealed block with one byte changed. No program in sight. -/
import Derived.Test.YtdcojnmgipidmaaGeomS
import Derived.Test.YtdcojnmgipidmaaGeomEncW
import Derived.Test.YtdcojnmgipidmaaCrc
import Derived.Laws.BitsAllLaws
import Derived.Laws.BitsLemmas
namespace Go.Proofs.Ytdcojnmgipidmaa
open Go.RowKit

theorem ofInt_i64 (a : Nat) (ha : a < 9223372036854775808) : (BitVec.ofInt 64 (a : Int)).toNat = a := by
  rw [BitVec.ofInt_natCast, BitVec.toNat_ofNat]; exact Nat.mod_eq_of_lt (by omega)
theorem i64_or_nat (a b : Nat) (ha : a < 9223372036854775808) (hb : b < 9223372036854775808) : bits .or .i64 (a : Int) (b : Int) = ((a ||| b : Nat) : Int) := by
  have hx : a ||| b < 2 ^ 63 := Nat.or_lt_two_pow (by omega) (by omega)
  show IntKind.i64.wrap ((BitVec.ofInt 64 (a : Int) ||| BitVec.ofInt 64 (b : Int)).toNat : Int) = _
  rw [BitVec.toNat_or, ofInt_i64 a ha, ofInt_i64 b hb, IntKind.wrap_i64]
  omega
theorem or_add (a b i : Nat) (hb : b < 2 ^ i) : b ||| 2 ^ i * a = 2 ^ i * a + b := by
  rw [Nat.or_comm, Nat.two_pow_add_eq_or_of_lt hb]
theorem i64_or_add (a b : Nat) (i : Nat) (ha : a < 256) (hb : b < 2 ^ i) (hi : i ≤ 32) : bits .or .i64 (b : Int) ((a * 2 ^ i : Nat) : Int) = ((a * 2 ^ i + b : Nat) : Int) := by
  have h1 : 2 ^ i ≤ 2 ^ 32 := Nat.pow_le_pow_right (by omega) hi
  have h2 : a * 2 ^ i ≤ 256 * 2 ^ 32 := Nat.mul_le_mul (by omega) h1
  rw [i64_or_nat _ _ (by omega) (by omega), Nat.mul_comm a, or_add a b i hb]

/-- Four bytes as a number. -/
def num4 (a b c d : Nat) : Nat := a + 256 * b + 65536 * c + 16777216 * d
theorem num4_or (a b c d : Nat) (ha : a < 256) (hb : b < 256) (hc : c < 256) (hd : d < 256) :
    bits .or .i64 (bits .or .i64 (bits .or .i64 (a : Int) ((b : Int) * 256)) ((c : Int) * 65536)) ((d : Int) * 16777216) = (num4 a b c d : Nat) := by
  have h1 := i64_or_add b a 8 hb (by omega) (by omega)
  have h2 := i64_or_add c (b * 2 ^ 8 + a) 16 hc (by omega) (by omega)
  have h3 := i64_or_add d (c * 2 ^ 16 + (b * 2 ^ 8 + a)) 24 hd (by omega) (by omega)
  rw [show ((b : Int) * 256) = ((b * 2 ^ 8 : Nat) : Int) by omega, h1, show ((c : Int) * 65536) = ((c * 2 ^ 16 : Nat) : Int) by omega, h2,
    show ((d : Int) * 16777216) = ((d * 2 ^ 24 : Nat) : Int) by omega, h3]
  unfold num4
  omega
/-- The number that stands at a place. -/
def at4 (l : List UInt8) (j : Nat) : Nat := num4 (l.getD j 0).toNat (l.getD (j + 1) 0).toNat (l.getD (j + 2) 0).toNat (l.getD (j + 3) 0).toNat
theorem at4_lt (l : List UInt8) (j : Nat) : at4 l j < 4294967296 := by
  have h1 := (l.getD j 0).toNat_lt
  have h2 := (l.getD (j + 1) 0).toNat_lt
  have h3 := (l.getD (j + 2) 0).toNat_lt
  have h4 := (l.getD (j + 3) 0).toNat_lt
  unfold at4 num4
  omega
theorem getD_take (l : List UInt8) (k j : Nat) (h : j < k) : (l.take k).getD j 0 = l.getD j 0 := by
  simp [List.getD, List.getElem?_take, h]
theorem at4_take (l : List UInt8) (k j : Nat) (h : j + 3 < k) : at4 (l.take k) j = at4 l j := by
  unfold at4; rw [getD_take _ _ _ (by omega), getD_take _ _ _ (by omega), getD_take _ _ _ (by omega), getD_take _ _ _ (by omega)]
theorem num4_four (n : Nat) (h : n < 4294967296) : num4 (UInt8.ofNat n).toNat (UInt8.ofNat (n / 256)).toNat (UInt8.ofNat (n / 65536)).toNat (UInt8.ofNat (n / 16777216)).toNat = n := by
  unfold num4; simp only [UInt8.toNat_ofNat']; omega
theorem at4_geo0 (b s i : Nat) (hb : b < 4294967296) : at4 (sealed (geoBytes b s i)) 4 = b := num4_four b hb
theorem at4_geo1 (b s i : Nat) (hb : s < 4294967296) : at4 (sealed (geoBytes b s i)) 8 = s := num4_four s hb
theorem at4_geo2 (b s i : Nat) (hb : i < 4294967296) : at4 (sealed (geoBytes b s i)) 12 = i := num4_four i hb
theorem seal_length (l : List UInt8) : (sealed l).length = l.length + 4 := by simp [sealed, four_length]
theorem seal_take (l : List UInt8) : (sealed l).take l.length = l := by unfold sealed; rw [List.take_left' rfl]
theorem geo_sealed (b s i : Nat) : sealed ((sealed (geoBytes b s i)).take 60) = sealed (geoBytes b s i) := by
  have := seal_take (geoBytes b s i)
  rw [geoBytes_length] at this
  rw [this]
theorem geo_length (b s i : Nat) : (sealed (geoBytes b s i)).length = 64 := by rw [seal_length, geoBytes_length]

theorem four_inj {a b : Nat} (ha : a < 4294967296) (hb : b < 4294967296) (h : four a = four b) : a = b := by
  have e0 : UInt8.ofNat a = UInt8.ofNat b := by have := congrArg (·.getD 0 0) h; exact this
  have e1 : UInt8.ofNat (a / 256) = UInt8.ofNat (b / 256) := by have := congrArg (·.getD 1 0) h; exact this
  have e2 : UInt8.ofNat (a / 65536) = UInt8.ofNat (b / 65536) := by have := congrArg (·.getD 2 0) h; exact this
  have e3 : UInt8.ofNat (a / 16777216) = UInt8.ofNat (b / 16777216) := by have := congrArg (·.getD 3 0) h; exact this
  rw [← num4_four a ha, ← num4_four b hb, e0, e1, e2, e3]
theorem crcByte_inj {c d : Nat} {x y : UInt8} (hc : c < 4294967296) (hd : d < 4294967296) (h : crcByte c x = crcByte d y) : c ^^^ x.toNat = d ^^^ y.toNat :=
  bitN_inj 8 _ _ (u32_xor_lt _ _ hc (by have := x.toNat_lt; omega)) (u32_xor_lt _ _ hd (by have := y.toNat_lt; omega)) h
theorem xor_right {a b c : Nat} (h : a ^^^ c = b ^^^ c) : a = b := by
  have := congrArg (· ^^^ c) h; simpa [Nat.xor_assoc] using this
theorem xor_left {a b c : Nat} (h : c ^^^ a = c ^^^ b) : a = b := by
  rw [Nat.xor_comm c, Nat.xor_comm c] at h; exact xor_right h
theorem crcRun_inj (l : List UInt8) : ∀ {c d : Nat}, c < 4294967296 → d < 4294967296 → crcRun c l = crcRun d l → c = d := by
  induction l with
  | nil => intro c d _ _ h; exact h
  | cons x l ih =>
    intro c d hc hd h
    have := ih (crcByte_lt c x hc) (crcByte_lt d x hd) h
    exact xor_right (crcByte_inj hc hd this)
theorem crc_set_ne (l : List UInt8) (k : Nat) (y : UInt8) (hk : k < l.length) (hy : y ≠ l[k]) : crc (l.set k y) ≠ crc l := by
  intro h
  unfold crc crcMore at h
  have h1 := xor_right h
  have e1 : l.set k y = l.take k ++ y :: l.drop (k + 1) := by rw [List.set_eq_take_append_cons_drop, if_pos hk]
  have e2 : l = l.take k ++ l[k] :: l.drop (k + 1) := by rw [List.getElem_cons_drop, List.take_append_drop]
  rw [e1] at h1
  conv at h1 => rhs; rw [e2]
  rw [crcRun_append, crcRun_append] at h1
  have hc : crcRun (0 ^^^ 4294967295) (l.take k) < 4294967296 := crcRun_lt _ _ (by decide)
  have h2 := crcRun_inj (l.drop (k + 1)) (crcByte_lt _ y hc) (crcByte_lt _ l[k] hc) h1
  exact hy (UInt8.toNat_inj.1 (xor_left (crcByte_inj hc hc h2)))
theorem set_app_left {l r : List UInt8} {k : Nat} (y : UInt8) (h : k < l.length) : (l ++ r).set k y = l.set k y ++ r := List.set_append_left _ _ h
/-- A sealed block with one byte changed is none. -/
theorem sealed_set (m : List UInt8) (k : Nat) (y : UInt8) (hk : k < (sealed m).length) (hy : y ≠ (sealed m)[k]) :
    sealed (((sealed m).set k y).take m.length) ≠ (sealed m).set k y := by
  intro h
  by_cases hkm : k < m.length
  · have hy' : y ≠ m[k] := by
      intro e; apply hy; rw [e]; simp [sealed, List.getElem_append_left hkm]
    have e1 : (sealed m).set k y = m.set k y ++ four (crc m) := by unfold sealed; exact set_app_left y hkm
    rw [e1, List.take_left' (by simp)] at h
    unfold sealed at h
    have h2 := List.append_cancel_left h
    exact crc_set_ne m k y hkm hy' (four_inj (crc_lt _) (crc_lt _) h2)
  · have e1 : ((sealed m).set k y).take m.length = m := by
      rw [List.take_set_of_le (by omega)]; exact seal_take m
    rw [e1] at h
    have := congrArg (fun l : List UInt8 => l[k]?) h
    simp only [List.getElem?_set_self hk, List.getElem?_eq_getElem hk, Option.some.injEq] at this
    exact hy this.symm
end Go.Proofs.Ytdcojnmgipidmaa
