/- Loading an inode map out of blocks. No program in sight. -/
import Derived.Test.YtbmblofhogihdaaMbS
import Derived.Test.YtbmblofhogihdaaImS
namespace Go.Proofs.Ytbmblofhogihdaa
open Go.RowKit

def mkE (e : Nat × Nat) : Ent := ⟨e.1, e.2, decide (e.1 ≠ 0)⟩
def enE (bs : List (List UInt8)) (q : Nat) : Nat × Nat := rdE (bs.getD (q / 8) []) (q % 8)
/-- The entries when those before p were looked at. -/
def ldL (n : Nat) (bs : List (List UInt8)) (p : Nat) : List Ent := (List.range n).map fun q => if 1 ≤ q ∧ q < p then mkE (enE bs q) else noEnt
/-- None before p stands where no inode is. -/
def okP (n : Nat) (bs : List (List UInt8)) (p : Nat) : Prop := ∀ q, q < p → (q = 0 ∨ n ≤ q) → enE bs q = (0, 0)
/-- Are these a map's blocks? -/
def ldOk (n : Nat) (bs : List (List UInt8)) : Prop := bs.length = (n + 7) / 8 ∧ (∀ b ∈ bs, isM b = true) ∧ okP n bs (8 * bs.length)
theorem ldL_len (n : Nat) (bs : List (List UInt8)) (p : Nat) : (ldL n bs p).length = n := by simp [ldL]
theorem ldL_get {n : Nat} (bs : List (List UInt8)) (p : Nat) {q : Nat} (hq : q < n) : (ldL n bs p)[q]? = some (if 1 ≤ q ∧ q < p then mkE (enE bs q) else noEnt) := by
  rw [ldL, List.getElem?_map, List.getElem?_range hq, Option.map_some]
theorem ldL_0 (n : Nat) (bs : List (List UInt8)) : ldL n bs 0 = List.replicate n noEnt := by
  apply List.ext_getElem?
  intro q
  by_cases hq : q < n
  · rw [ldL_get bs 0 hq, if_neg (by omega), List.getElem?_replicate, if_pos hq]
  · rw [List.getElem?_eq_none (by rw [ldL_len]; omega), List.getElem?_eq_none (by rw [List.length_replicate]; omega)]
theorem ldL_same {n p p' : Nat} (bs : List (List UInt8)) (h : ∀ q, q < n → 1 ≤ q → (q < p ↔ q < p')) : ldL n bs p = ldL n bs p' := by
  apply List.ext_getElem?
  intro q
  by_cases hq : q < n
  · rw [ldL_get bs p hq, ldL_get bs p' hq]
    by_cases h1 : 1 ≤ q
    · have := h q hq h1
      by_cases h2 : q < p
      · rw [if_pos ⟨h1, h2⟩, if_pos ⟨h1, this.1 h2⟩]
      · rw [if_neg (fun h => h2 h.2), if_neg (fun h => h2 (this.2 h.2))]
    · rw [if_neg (fun h => h1 h.1), if_neg (fun h => h1 h.1)]
  · rw [List.getElem?_eq_none (by rw [ldL_len]; omega), List.getElem?_eq_none (by rw [ldL_len]; omega)]
theorem ldL_set {n p : Nat} (bs : List (List UInt8)) (h1 : 1 ≤ p) (hp : p < n) : (ldL n bs p).set p (mkE (enE bs p)) = ldL n bs (p + 1) := by
  apply List.ext_getElem?
  intro q
  by_cases hq : q < n
  · by_cases e : p = q
    · subst e
      rw [List.getElem?_set_self (by rw [ldL_len]; exact hp), ldL_get bs _ hp, if_pos ⟨h1, Nat.lt_succ_self p⟩]
    · rw [List.getElem?_set_ne e, ldL_get bs _ hq, ldL_get bs _ hq]
      by_cases h : 1 ≤ q ∧ q < p
      · rw [if_pos h, if_pos (by omega)]
      · rw [if_neg h, if_neg (by omega)]
  · rw [List.getElem?_eq_none (by rw [List.length_set, ldL_len]; omega), List.getElem?_eq_none (by rw [ldL_len]; omega)]
theorem okP_0 (n : Nat) (bs : List (List UInt8)) : okP n bs 0 := fun q hq => absurd hq (Nat.not_lt_zero q)
theorem okP_succ {n p : Nat} {bs : List (List UInt8)} (h : okP n bs p) (h2 : (p = 0 ∨ n ≤ p) → enE bs p = (0, 0)) : okP n bs (p + 1) := fun q hq hr => by
  by_cases e : q = p
  · subst e
    exact h2 hr
  · exact h q (by omega) hr
theorem enE_at {bs : List (List UInt8)} {i k : Nat} {b : List UInt8} (h : bs[i]? = some b) (hk : k < 8) : (rdL b)[k]? = some (enE bs (8 * i + k)) := by
  unfold enE
  rw [show (8 * i + k) / 8 = i by omega, show (8 * i + k) % 8 = k by omega, List.getD_eq_getElem?_getD, h, Option.getD_some, rdL, List.getElem?_map, List.getElem?_range hk, Option.map_some]
theorem ld_no {n p i : Nat} {bs : List (List UInt8)} (hp : p < 8 * bs.length) (hr : p = 0 ∨ n ≤ p) (hne : enE bs p ≠ (0, 0)) : ¬ ldOk n bs := fun h => hne (h.2.2 p hp hr)
theorem ld_no2 {n i : Nat} {bs : List (List UInt8)} {b : List UInt8} (h : bs[i]? = some b) (hm : isM b = false) : ¬ ldOk n bs := fun h2 => by
  rw [h2.2.1 b (List.mem_of_getElem? h)] at hm
  cases hm
end Go.Proofs.Ytbmblofhogihdaa
