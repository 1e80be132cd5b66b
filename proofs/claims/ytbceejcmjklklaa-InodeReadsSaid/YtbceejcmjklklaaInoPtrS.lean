/- Bytes as pointers of four bytes each, and back. No program in sight. -/
import Derived.Test.YtbceejcmjklklaaInoS
namespace Go.Proofs.Ytbceejcmjklklaa
open Go.RowKit

/-- The numbers that bytes are, four at a time. -/
def quads : Nat → List UInt8 → List Nat
  | 0, _ => []
  | k + 1, l => numL (l.take 4) :: quads k (l.drop 4)
theorem quads_len : ∀ (k : Nat) (l : List UInt8), (quads k l).length = k
  | 0, _ => rfl
  | k + 1, l => by unfold quads; rw [List.length_cons, quads_len k]
theorem quads_lt : ∀ (k : Nat) (l : List UInt8), ∀ p ∈ quads k l, p < 4294967296
  | 0, _, p, h => by cases h
  | k + 1, l, p, h => by
    unfold quads at h
    rcases List.mem_cons.1 h with rfl | h
    · have h1 := numL_lt (l.take 4)
      have h2 : (l.take 4).length ≤ 4 := List.length_take_le _ _
      exact Nat.lt_of_lt_of_le h1 (Nat.le_trans (Nat.pow_le_pow_right (by omega) h2) (by decide))
    · exact quads_lt k _ p h
theorem four_numL (l : List UInt8) (h : l.length = 4) : four (numL l) = l := by
  match l, h with
  | [a, b, c, d], _ =>
    have ha := a.toNat_lt
    have hb := b.toNat_lt
    have hc := c.toNat_lt
    have hd := d.toNat_lt
    simp only [numL, four, List.cons.injEq, and_true]
    refine ⟨?_, ?_, ?_, ?_⟩ <;> (rw [← UInt8.toNat_inj, UInt8.toNat_ofNat']; omega)
theorem quads_back : ∀ (k : Nat) (l : List UInt8), l.length = 4 * k → (quads k l).flatMap four = l
  | 0, l, h => by rw [List.eq_nil_of_length_eq_zero (by omega : l.length = 0)]; rfl
  | k + 1, l, h => by
    unfold quads
    rw [List.flatMap_cons, four_numL _ (by rw [List.length_take]; omega), quads_back k (l.drop 4) (by rw [List.length_drop]; omega), List.take_append_drop]
theorem quads_four : ∀ (ps : List Nat), (∀ p ∈ ps, p < 4294967296) → quads ps.length (ps.flatMap four) = ps
  | [], _ => rfl
  | p :: ps, h => by
    rw [List.length_cons, List.flatMap_cons]
    unfold quads
    rw [List.take_left' (four_length p), List.drop_left' (four_length p), quads_four ps (fun q hq => h q (by simp [hq])), ← leN_four, numL_leN, Nat.mod_eq_of_lt (h p (by simp))]
theorem quads_at : ∀ (k : Nat) (l : List UInt8) (j : Nat), j < k → (quads k l)[j]? = some (numL ((l.drop (4 * j)).take 4))
  | 0, _, _, h => by omega
  | k + 1, l, 0, _ => by simp [quads]
  | k + 1, l, j + 1, h => by
    unfold quads
    rw [List.getElem?_cons_succ, quads_at k _ j (by omega), List.drop_drop]
    first | rw [show 4 + 4 * j = 4 * (j + 1) by omega] | rw [show 4 * j + 4 = 4 * (j + 1) by omega]
end Go.Proofs.Ytbceejcmjklklaa
