/- A list of lists of bytes as an argument. -/
import Derived.Test.YtbmblofhogihdaaRd
namespace Go.Proofs.Ytbmblofhogihdaa
open Go.RowKit

/-- A slice of bytes as an element. -/
structure RowB where
  a : Option Addr
  n : Nat
  c : Nat
  l : List UInt8
def RowB.v (r : RowB) : Value := .slice r.a r.n r.c
theorem rowsB_of_rd {P : Program} {w : World} {n : Nat} {t e b : TypeId} {v : Value} (ht : P.underlying t = some (.slice e)) (he : P.underlying e = some (.slice b)) (hb : P.underlying b = some (.int .u8)) (hce : P.cellsOf e = 1) (hcb : P.cellsOf b = 1)
    (h : Rd P w (n + 3) t [v]) :
    ∃ (A : Option Addr) (m c : Nat) (rs : List RowB), v = .slice A m c ∧ m ≤ c ∧ c ≤ 9223372036854775807 ∧ Sl w w.heap.size A m (rs.map RowB.v) ∧ ∀ r ∈ rs, By w w.heap.size r.a r.n r.l ∧ r.n ≤ r.c ∧ r.c ≤ 9223372036854775807 := by
  unfold Rd at h
  rw [ht] at h
  rcases h with h | ⟨a, len, cap, h, hl, hm, hi⟩
  · simp only [List.cons.injEq, and_true] at h
    exact ⟨none, 0, 0, [], h, Nat.le_refl _, by omega, Sl.nil_, fun r hr => by cases hr⟩
  · simp only [List.cons.injEq, and_true] at h
    rw [hce] at hi
    obtain ⟨rs, hrl, hq⟩ := list_of (Q := fun i (r : RowB) => w.cell? (a.add i) = some r.v ∧ By w w.heap.size r.a r.n r.l ∧ r.n ≤ r.c ∧ r.c ≤ 9223372036854775807) len (fun i hil => by
      obtain ⟨cs', hcl, hat, hr⟩ := hi i hil
      match cs', hcl with
      | [c0], _ =>
        obtain ⟨A, n', c, l, rfl, h1, h2, h3⟩ := by_of_rd (n := n) he hb hcb hr
        have := hat 0 (by omega)
        exact ⟨⟨A, n', c, l⟩, by simpa [RowB.v] using this, h3, h1, h2⟩)
    refine ⟨some a, len, cap, rs, h, hl, by simpa [maxLen] using hm, ⟨by simp [hrl], fun j u hu => ?_⟩, fun r hr => ?_⟩
    · rw [List.getElem?_map] at hu
      by_cases hj : j < rs.length
      · rw [List.getElem?_eq_getElem hj] at hu
        simp only [Option.map_some, Option.some.injEq] at hu
        have h1 := (hq j hj).1
        have := cell_lt h1
        rw [addr_block] at this
        exact ⟨a, rfl, this, by rw [h1, hu]⟩
      · rw [List.getElem?_eq_none (by omega)] at hu
        cases hu
    · obtain ⟨i, hi', rfl⟩ := List.getElem_of_mem hr
      exact (hq i hi').2
end Go.Proofs.Ytbmblofhogihdaa
