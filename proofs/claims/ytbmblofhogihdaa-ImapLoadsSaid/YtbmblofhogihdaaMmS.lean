/- The bytes of a block under way. No program in sight. -/
import Derived.Test.YtbmblofhogihdaaMbS
namespace Go.Proofs.Ytbmblofhogihdaa
open Go.RowKit

def mbF (l : List (Nat × Nat)) (j : Nat) : List UInt8 := mbS (l.take j) ++ List.replicate (64 - 8 * j) 0
theorem mbF_len {l : List (Nat × Nat)} {j : Nat} (hl : l.length = 8) (hj : j ≤ 8) : (mbF l j).length = 64 := by
  rw [mbF, List.length_append, mbS_len, List.length_take, List.length_replicate]
  omega
theorem mbF_0 (l : List (Nat × Nat)) : mbF l 0 = List.replicate 64 0 := by simp [mbF, mbS]
theorem mbF_8 {l : List (Nat × Nat)} (hl : l.length = 8) : mbF l 8 = mbS l := by
  rw [mbF, List.take_of_length_le (by omega), show 64 - 8 * 8 = 0 from rfl, List.replicate_zero, List.append_nil]
theorem mbF_set {l : List (Nat × Nat)} {j : Nat} {e : Nat × Nat} (hl : l.length = 8) (h : l[j]? = some e) (hg : e.1 < 4096) :
    ((((mbF l j).set (8 * j) (UInt8.ofNat e.1)).set (8 * j + 1) (UInt8.ofNat (e.1 / 256))).set (8 * j + 4) (UInt8.ofNat e.2)).set (8 * j + 5) (UInt8.ofNat (e.2 / 256)) = mbF l (j + 1) := by
  obtain ⟨hj, he⟩ := List.getElem?_eq_some_iff.1 h
  have hM : (mbS (l.take j)).length = 8 * j := by rw [mbS_len, List.length_take]; omega
  have hr : List.replicate (64 - 8 * j) (0 : UInt8) = 0 :: 0 :: 0 :: 0 :: 0 :: 0 :: 0 :: 0 :: List.replicate (64 - 8 * (j + 1)) 0 := by
    rw [show 64 - 8 * j = (64 - 8 * (j + 1)) + 1 + 1 + 1 + 1 + 1 + 1 + 1 + 1 by omega]
    simp only [List.replicate_succ]
  have h2 : e.1 / 65536 = 0 := by omega
  have h3 : e.1 / 16777216 = 0 := by omega
  unfold mbF
  rw [hr, List.take_succ_eq_append_getElem hj, he, mbS_snoc, List.append_assoc]
  unfold eb8
  rw [h2, h3]
  rw [List.set_append_right _ _ (by omega), List.set_append_right _ _ (by omega), List.set_append_right _ _ (by omega), List.set_append_right _ _ (by omega), hM]
  rw [show 8 * j - 8 * j = 0 by omega, show 8 * j + 1 - 8 * j = 1 by omega, show 8 * j + 4 - 8 * j = 4 by omega, show 8 * j + 5 - 8 * j = 5 by omega]
  rfl
end Go.Proofs.Ytbmblofhogihdaa
