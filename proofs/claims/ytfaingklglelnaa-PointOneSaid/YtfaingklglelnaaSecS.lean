/- Sectors of blocks, in plain lists. No program in sight. -/
import Derived.Test.YtfaingklglelnaaMem
namespace Go.Proofs.Ytfaingklglelnaa
open Go.RowKit

/-- A sector. -/
def sec (l : List UInt8) (s : Nat) : List UInt8 := (l.drop (16 * s)).take 16
theorem sec_length {l : List UInt8} {s : Nat} (hl : l.length = 64) (hs : s < 4) : (sec l s).length = 16 := by
  unfold sec; rw [List.length_take, List.length_drop]; omega
theorem secs_of {l : List UInt8} (hl : l.length = 64) : l = sec l 0 ++ (sec l 1 ++ (sec l 2 ++ sec l 3)) := by
  unfold sec
  have h3 : (l.drop (16 * 3)).take 16 = l.drop 48 := List.take_of_length_le (by rw [List.length_drop]; omega)
  have h0 := (List.take_append_drop 16 l).symm
  have h1 := (List.take_append_drop 16 (l.drop 16)).symm
  have h2 := (List.take_append_drop 16 (l.drop 32)).symm
  rw [List.drop_drop] at h1 h2
  rw [h3]
  simpa using h0.trans (by rw [← h2, ← h1])
theorem sec_app {a b c d : List UInt8} (ha : a.length = 16) (hb : b.length = 16) (hc : c.length = 16) (hd : d.length = 16) :
    sec (a ++ (b ++ (c ++ d))) 0 = a ∧ sec (a ++ (b ++ (c ++ d))) 1 = b ∧ sec (a ++ (b ++ (c ++ d))) 2 = c ∧ sec (a ++ (b ++ (c ++ d))) 3 = d := by
  unfold sec
  refine ⟨?_, ?_, ?_, ?_⟩
  · rw [Nat.mul_zero, List.drop_zero, List.take_append_of_le_length (by omega), List.take_of_length_le (by omega)]
  · rw [show 16 * 1 = a.length by omega, List.drop_left, List.take_append_of_le_length (by omega), List.take_of_length_le (by omega)]
  · rw [← List.append_assoc, show 16 * 2 = (a ++ b).length by rw [List.length_append]; omega, List.drop_left, List.take_append_of_le_length (by omega), List.take_of_length_le (by omega)]
  · rw [← List.append_assoc, ← List.append_assoc, show 16 * 3 = (a ++ b ++ c).length by rw [List.length_append, List.length_append]; omega, List.drop_left, List.take_of_length_le (by omega)]
/-- A block of sectors of two. -/
def mixS (m : Nat → Bool) (a b : List UInt8) (s : Nat) : List UInt8 := if m s then sec a s else sec b s
def mixB (m : Nat → Bool) (a b : List UInt8) : List UInt8 := (List.range 4).flatMap (mixS m a b)
theorem mixB_eq (m : Nat → Bool) (a b : List UInt8) : mixB m a b = mixS m a b 0 ++ (mixS m a b 1 ++ (mixS m a b 2 ++ mixS m a b 3)) := by simp [mixB, List.range_succ]
theorem mixS_length {m : Nat → Bool} {a b : List UInt8} {s : Nat} (ha : a.length = 64) (hb : b.length = 64) (hs : s < 4) : (mixS m a b s).length = 16 := by
  unfold mixS
  split
  · exact sec_length ha hs
  · exact sec_length hb hs
theorem sec_mix {m : Nat → Bool} {a b : List UInt8} {s : Nat} (ha : a.length = 64) (hb : b.length = 64) (hs : s < 4) : sec (mixB m a b) s = mixS m a b s := by
  obtain ⟨h0, h1, h2, h3⟩ := sec_app (mixS_length (m := m) (s := 0) ha hb (by decide)) (mixS_length (m := m) (s := 1) ha hb (by decide)) (mixS_length (m := m) (s := 2) ha hb (by decide)) (mixS_length (m := m) (s := 3) ha hb (by decide))
  rw [mixB_eq]
  have : s = 0 ∨ s = 1 ∨ s = 2 ∨ s = 3 := by omega
  rcases this with rfl | rfl | rfl | rfl
  · exact h0
  · exact h1
  · exact h2
  · exact h3
theorem mixB_length {m : Nat → Bool} {a b : List UInt8} (ha : a.length = 64) (hb : b.length = 64) : (mixB m a b).length = 64 := by
  rw [mixB_eq]
  simp only [List.length_append, mixS_length (m := m) (s := 0) ha hb (by decide), mixS_length (m := m) (s := 1) ha hb (by decide), mixS_length (m := m) (s := 2) ha hb (by decide), mixS_length (m := m) (s := 3) ha hb (by decide)]
theorem mixB_all {m : Nat → Bool} {a b : List UInt8} (ha : a.length = 64) (h : ∀ s, s < 4 → m s = true) : mixB m a b = a := by
  rw [mixB_eq]
  simp only [mixS, h 0 (by decide), h 1 (by decide), h 2 (by decide), h 3 (by decide), if_true]
  exact (secs_of ha).symm
theorem mixB_none {m : Nat → Bool} {a b : List UInt8} (hb : b.length = 64) (h : ∀ s, s < 4 → m s = false) : mixB m a b = b := by
  rw [mixB_eq]
  simp only [mixS, h 0 (by decide), h 1 (by decide), h 2 (by decide), h 3 (by decide), Bool.false_eq_true, if_false]
  exact (secs_of hb).symm
end Go.Proofs.Ytfaingklglelnaa
