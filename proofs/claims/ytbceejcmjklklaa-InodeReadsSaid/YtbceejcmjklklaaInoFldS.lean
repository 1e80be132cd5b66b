/- A number's bytes, taken from the top: what marlref05.Decode reckons. No program in sight. -/
import Derived.Test.YtbceejcmjklklaaInoDecW
namespace Go.Proofs.Ytbceejcmjklklaa
open Go.RowKit

theorem drop_take4 {l : List UInt8} {i : Nat} (h : i + 3 < l.length) : (l.drop i).take 4 = [l[i], l[i + 1], l[i + 2], l[i + 3]] := by
  rw [List.drop_eq_getElem_cons (by omega), List.drop_eq_getElem_cons (by omega), List.drop_eq_getElem_cons (by omega), List.drop_eq_getElem_cons (by omega)]
  rfl
theorem drop_take2 {l : List UInt8} {i : Nat} (h : i + 1 < l.length) : (l.drop i).take 2 = [l[i], l[i + 1]] := by
  rw [List.drop_eq_getElem_cons (by omega), List.drop_eq_getElem_cons (by omega)]
  rfl
theorem drop_take1 {l : List UInt8} {i : Nat} (h : i < l.length) : (l.drop i).take 1 = [l[i]] := by
  rw [List.drop_eq_getElem_cons (by omega)]
  rfl
theorem fld1_eq {l : List UInt8} {i : Nat} (h : i < l.length) : fld l i 1 = l[i].toNat := by
  unfold fld
  rw [drop_take1 h]
  simp [numL]
theorem fld2_eq {l : List UInt8} {i : Nat} (h : i + 1 < l.length) : fld l i 2 = l[i].toNat + 256 * l[i + 1].toNat := by
  unfold fld
  rw [drop_take2 h]
  simp [numL]
theorem fld4_eq {l : List UInt8} {i : Nat} (h : i + 3 < l.length) : fld l i 4 = l[i].toNat + 256 * (l[i + 1].toNat + 256 * (l[i + 2].toNat + 256 * l[i + 3].toNat)) := by
  unfold fld
  rw [drop_take4 h]
  simp [numL]
/-- A number without its lowest bytes. -/
def topF (l : List UInt8) (i q : Nat) : Nat := fld l i 4 / 256 ^ q
theorem topF_zero (l : List UInt8) (i : Nat) : topF l i 0 = fld l i 4 := by simp [topF]
theorem topF_four (l : List UInt8) (i : Nat) : topF l i 4 = 0 := by
  have := fld_lt l i 4
  unfold topF
  exact Nat.div_eq_of_lt this
theorem topF_lt (l : List UInt8) (i q : Nat) : topF l i q < 4294967296 := Nat.lt_of_le_of_lt (Nat.div_le_self _ _) (fld_lt l i 4)
theorem topF_hi (l : List UInt8) (i r : Nat) : topF l i (r + 1) < 16777216 := by
  have := fld_lt l i 4
  unfold topF
  rw [Nat.pow_succ, Nat.mul_comm, ← Nat.div_div_eq_div_mul]
  exact Nat.lt_of_le_of_lt (Nat.div_le_self _ _) (by omega)
theorem topF_step {l : List UInt8} {i r : Nat} (hi : i + 3 < l.length) (h : r ≤ 3) : topF l i (r + 1) * 256 + (l[i + r]'(by omega)).toNat = topF l i r := by
  have h0 := l[i].toNat_lt
  have h1 := l[i + 1].toNat_lt
  have h2 := l[i + 2].toNat_lt
  have h3 := l[i + 3].toNat_lt
  have hr : r = 0 ∨ r = 1 ∨ r = 2 ∨ r = 3 := by omega
  unfold topF
  rw [fld4_eq hi]
  rcases hr with rfl | rfl | rfl | rfl <;> (try simp only [Nat.add_zero]) <;> omega
/-- The pointers, each without its lowest bytes. -/
def ptF (l : List UInt8) (q : Nat) : List Nat := (List.range 9).map fun t => topF l (10 + 4 * t) q
def mixF (l : List UInt8) (j r : Nat) : List Nat := (List.range 9).map fun t => topF l (10 + 4 * t) (if t < j then r else r + 1)
theorem mixF_zero (l : List UInt8) (r : Nat) : mixF l 0 r = ptF l (r + 1) := by simp [mixF, ptF]
theorem mixF_nine (l : List UInt8) (r : Nat) : mixF l 9 r = ptF l r := by
  unfold mixF ptF
  refine List.map_congr_left fun t ht => ?_
  rw [if_pos (by simpa using ht)]
theorem ptF_zero (l : List UInt8) : ptF l 0 = [fld l 10 4, fld l 14 4, fld l 18 4, fld l 22 4, fld l 26 4, fld l 30 4, fld l 34 4, fld l 38 4, fld l 42 4] := by
  simp [ptF, List.range_succ, topF_zero]
theorem ptF_four (l : List UInt8) : ptF l 4 = [0, 0, 0, 0, 0, 0, 0, 0, 0] := by
  simp [ptF, List.range_succ, topF_four]
theorem mixF_at (l : List UInt8) {j r : Nat} (hj : j < 9) : (mixF l j r)[j]? = some (topF l (10 + 4 * j) (r + 1)) := by
  unfold mixF
  rw [List.getElem?_map, List.getElem?_range hj]
  simp
theorem mixF_set (l : List UInt8) {j r : Nat} (hj : j < 9) : (mixF l j r).set j (topF l (10 + 4 * j) r) = mixF l (j + 1) r := by
  apply List.ext_getElem?
  intro i
  unfold mixF
  rw [List.getElem?_set, List.length_map, List.length_range, List.getElem?_map, List.getElem?_map]
  by_cases e : j = i
  · subst e
    rw [if_pos rfl, if_pos hj, List.getElem?_range hj]
    simp
  · rw [if_neg e]
    rcases Nat.lt_or_ge i 9 with h | h
    · rw [List.getElem?_range h]
      simp only [Option.map_some, Option.some.injEq]
      congr 1
      by_cases hi : i < j
      · rw [if_pos hi, if_pos (by omega)]
      · rw [if_neg hi, if_neg (by omega)]
    · rw [List.getElem?_eq_none (by simpa using h)]
      rfl
/-- An inode's cells. -/
def cellsI (a v k n s : Nat) (ps : List Nat) : Array Value := ([Value.int .i64 (a : Int), Value.int .i64 (v : Int), Value.int .i64 (k : Int), Value.int .i64 (n : Int), Value.int .i64 (s : Int)] ++ ps.map fun (p : Nat) => Value.int .u32 (p : Int)).toArray
theorem cellsI_at (a v k n s : Nat) (ps : List Nat) (j : Nat) : (cellsI a v k n s ps)[5 + j]? = ps[j]?.map fun (p : Nat) => Value.int .u32 (p : Int) := by
  unfold cellsI
  rw [List.getElem?_toArray, List.getElem?_append_right (by simp), List.getElem?_map]
  simp
theorem cellsI_set (a v k n s : Nat) (ps : List Nat) (j x : Nat) : (cellsI a v k n s ps).setIfInBounds (5 + j) (.int .u32 (x : Int)) = cellsI a v k n s (ps.set j x) := by
  unfold cellsI
  rw [List.setIfInBounds_toArray, List.set_append_right _ _ (by simp), List.map_set]
  simp
theorem cellsI_size (a v k n s s' : Nat) (ps : List Nat) : (cellsI a v k n s ps).setIfInBounds 4 (.int .i64 (s' : Int)) = cellsI a v k n s' ps := by
  unfold cellsI
  rw [List.setIfInBounds_toArray]
  rfl
end Go.Proofs.Ytbceejcmjklklaa
