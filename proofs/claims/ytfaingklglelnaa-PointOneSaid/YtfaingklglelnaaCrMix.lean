/- What a crash leaves of one write, in plain lists. -/
import Derived.Test.YtfaingklglelnaaDskCrS
namespace Go.Proofs.Ytfaingklglelnaa
open Go.RowKit

theorem spl_pre (p a b : List UInt8) (t : Nat) (hp : p.length = t * 16) : spl (p ++ a.drop (t * 16)) b t = p ++ sect b t ++ a.drop (t * 16 + 16) := by
  unfold spl
  rw [← hp, List.take_left, List.drop_length_add_append, List.drop_drop]
/-- The first m sectors of what a write leaves. -/
def mix (f : Nat → Bool) (a b : List UInt8) : Nat → List UInt8
  | 0 => []
  | m + 1 => mix f a b m ++ (if f m then sect b m else sect a m)
theorem mix_len (f : Nat → Bool) (a b : List UInt8) (ha : a.length = 64) (hb : b.length = 64) : ∀ m, m ≤ 4 → (mix f a b m).length = m * 16
  | 0, _ => rfl
  | m + 1, h => by
    rw [mix, List.length_append, mix_len f a b ha hb m (by omega)]
    split
    · rw [sect_len b m hb (by omega)]; omega
    · rw [sect_len a m ha (by omega)]; omega
theorem sect_drop (a : List UInt8) (m : Nat) : sect a m ++ a.drop ((m + 1) * 16) = a.drop (m * 16) := by
  unfold sect
  have := List.take_append_drop 16 (a.drop (m * 16))
  rwa [List.drop_drop, show m * 16 + 16 = (m + 1) * 16 by omega] at this
theorem crash1_mix (f : Nat → Bool) (x : Nat × List UInt8) (l : List (List UInt8)) (n : Nat) (h : All64 n l) (hx : x.2.length = 64) (hn : x.1 < n) : ∀ m, m ≤ 4 → crash1 f x m l = l.set x.1 (mix f (l.getD x.1 []) x.2 m ++ (l.getD x.1 []).drop (m * 16))
  | 0, _ => by
    have hl : x.1 < l.length := by rw [h.1]; exact hn
    show l = l.set x.1 ([] ++ (l.getD x.1 []).drop (0 * 16))
    rw [Nat.zero_mul, List.drop_zero, List.nil_append, List.getD_eq_getElem?_getD, List.getElem?_eq_getElem hl]
    simp
  | m + 1, hm => by
    have hl : x.1 < l.length := by rw [h.1]; exact hn
    have h0 : (l.getD x.1 []).length = 64 := by
      rw [List.getD_eq_getElem?_getD, List.getElem?_eq_getElem hl]
      exact h.2 _ (List.getElem_mem hl)
    rw [crash1_step, crash1_mix f x l n h hx hn m (by omega), mix]
    split
    · rename_i hf
      unfold cutIn
      rw [List.set_set, List.getD_eq_getElem?_getD (l := l.set _ _), List.getElem?_set_self hl, Option.getD_some]
      rw [spl_pre _ _ _ m (mix_len f _ _ h0 hx m (by omega)), show m * 16 + 16 = (m + 1) * 16 by omega]
    · rw [List.append_assoc, sect_drop]
theorem crash1_four (f : Nat → Bool) (x : Nat × List UInt8) (l : List (List UInt8)) (n : Nat) (h : All64 n l) (hx : x.2.length = 64) (hn : x.1 < n) : crash1 f x 4 l = l.set x.1 (mix f (l.getD x.1 []) x.2 4) := by
  have hl : x.1 < l.length := by rw [h.1]; exact hn
  have h0 : (l.getD x.1 []).length = 64 := by
    rw [List.getD_eq_getElem?_getD, List.getElem?_eq_getElem hl]
    exact h.2 _ (List.getElem_mem hl)
  rw [crash1_mix f x l n h hx hn 4 (Nat.le_refl _), List.drop_of_length_le (by omega), List.append_nil]
end Go.Proofs.Ytfaingklglelnaa
