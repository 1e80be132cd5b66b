/- The reference's Crash in plain lists: sectors side by side. -/
import Derived.Test.YtpcaaobninnkaaaDrfNW
namespace Go.Proofs.Ytpcaaobninnkaaa
open Go.RowKit

/-- The first m sectors of what a write leaves. -/
def mix (f : Nat → Bool) (a b : List UInt8) : Nat → List UInt8
  | 0 => []
  | m + 1 => mix f a b m ++ (if f m then sect b m else sect a m)
theorem mix_len (f : Nat → Bool) (a b : List UInt8) (ha : a.length = 64) (hb : b.length = 64) : ∀ m, m ≤ 4 → (mix f a b m).length = m * 16
  | 0, _ => rfl
  | m + 1, h => by
    rw [mix, List.length_append, mix_len f a b ha hb m (by omega)]
    split
    · rw [sect_len b m hb (by omega)]; omega
    · rw [sect_len a m ha (by omega)]; omega
theorem sect_drop (a : List UInt8) (m : Nat) : sect a m ++ a.drop ((m + 1) * 16) = a.drop (m * 16) := by
  unfold sect
  have := List.take_append_drop 16 (a.drop (m * 16))
  rwa [List.drop_drop, show m * 16 + 16 = (m + 1) * 16 by omega] at this
theorem crash1_mix (f : Nat → Bool) (x : Nat × List UInt8) (l : List (List UInt8)) (n : Nat) (h : All64 n l) (hx : x.2.length = 64) (hn : x.1 < n) : ∀ m, m ≤ 4 → crash1 f x m l = l.set x.1 (mix f (l.getD x.1 []) x.2 m ++ (l.getD x.1 []).drop (m * 16))
  | 0, _ => by
    have hl : x.1 < l.length := by rw [h.1]; exact hn
    show l = l.set x.1 ([] ++ (l.getD x.1 []).drop (0 * 16))
    rw [Nat.zero_mul, List.drop_zero, List.nil_append, List.getD_eq_getElem?_getD, List.getElem?_eq_getElem hl]
    simp
  | m + 1, hm => by
    have hl : x.1 < l.length := by rw [h.1]; exact hn
    have h0 : (l.getD x.1 []).length = 64 := by
      rw [List.getD_eq_getElem?_getD, List.getElem?_eq_getElem hl]
      exact h.2 _ (List.getElem_mem hl)
    rw [crash1_step, crash1_mix f x l n h hx hn m (by omega), mix]
    split
    · rename_i hf
      unfold cutIn
      rw [List.set_set, List.getD_eq_getElem?_getD (l := l.set _ _), List.getElem?_set_self hl, Option.getD_some]
      rw [spl_pre _ _ _ m (mix_len f _ _ h0 hx m (by omega)), show m * 16 + 16 = (m + 1) * 16 by omega]
    · rw [List.append_assoc, sect_drop]
theorem crash1_four (f : Nat → Bool) (x : Nat × List UInt8) (l : List (List UInt8)) (n : Nat) (h : All64 n l) (hx : x.2.length = 64) (hn : x.1 < n) : crash1 f x 4 l = l.set x.1 (mix f (l.getD x.1 []) x.2 4) := by
  have hl : x.1 < l.length := by rw [h.1]; exact hn
  have h0 : (l.getD x.1 []).length = 64 := by
    rw [List.getD_eq_getElem?_getD, List.getElem?_eq_getElem hl]
    exact h.2 _ (List.getElem_mem hl)
  rw [crash1_mix f x l n h hx hn 4 (Nat.le_refl _), List.drop_of_length_le (by omega), List.append_nil]
theorem txt_app (a b : List UInt8) : txt a ++ txt b = txt (a ++ b) := by
  unfold txt
  apply ByteArray.ext
  simp
theorem txt_cut (a : List UInt8) (m lo hi : Nat) (hlo : lo = m * 16) (hhi : hi = m * 16 + 16) : (txt a).extract lo hi = txt (sect a m) := by
  subst hlo hhi
  unfold txt sect
  apply ByteArray.ext
  simp [ByteArray.extract, ByteArray.copySlice, List.take_drop]
theorem and_one (a : Int) : bits BinOp.and IntKind.i64 a 1 = a % 2 := by
  show IntKind.i64.wrap ((BitVec.ofInt 64 a &&& BitVec.ofInt 64 1).toNat : Int) = _
  have h1 : (BitVec.ofInt 64 a &&& BitVec.ofInt 64 1).toNat = (BitVec.ofInt 64 a).toNat % 2 := by
    rw [BitVec.toNat_and]
    show (BitVec.ofInt 64 a).toNat &&& 1 = _
    rw [Nat.and_one_is_mod]
  have h2 : ((BitVec.ofInt 64 a).toNat : Int) = a % 18446744073709551616 := by
    rw [BitVec.toNat_ofInt]
    omega
  rw [h1, IntKind.wrap_i64]
  omega
theorem bit_rem (a : Int) : (bits BinOp.and IntKind.i64 a 1 == 1) = !(a.tmod 2 == 0) := by
  rw [and_one]
  have h : a.tmod 2 = 0 ↔ a % 2 = 0 := by
    rw [← Int.dvd_iff_tmod_eq_zero, Int.dvd_iff_emod_eq_zero]
  by_cases h0 : a % 2 = 0
  · rw [h0, h.2 h0]; rfl
  · have h1 : a % 2 = 1 := by omega
    have h2 : ¬ a.tmod 2 = 0 := fun e => h0 (h.1 e)
    rw [h1]
    simp [h2]
end Go.Proofs.Ytpcaaobninnkaaa
