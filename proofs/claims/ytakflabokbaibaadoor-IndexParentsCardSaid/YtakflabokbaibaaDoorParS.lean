/- The law IndexParents in plain numbers: a block's path is its parent's with one step more. -/
import Derived.Test.YtakflabokbaibaaDoorPaW
set_option linter.unusedVariables false
set_option linter.unusedSimpArgs false
namespace Go.Proofs.YtakflabokbaibaaDoor

def parAt (n : Int) : Bool := match toP n with
  | none => true
  | some p => match p.metas[p.metas.length - 1]?, p.slots[p.metas.length - 1]? with
    | some x, some s => (match toP x with | some q => decide (p.metas = q.metas ++ [x]) && decide (p.slots = q.slots ++ [s]) && decide (p.root = q.root) | none => false) && decide (-605 ≤ x ∧ x ≤ 605) && decide (s ≤ 605)
    | none, none => decide (p.metas = [])
    | _, _ => false
theorem par_all : (List.range 1210).all (fun i => parAt ((i : Int) - 605)) = true := by decide +kernel
theorem parAt_any (n : Int) : parAt n = true := by
  by_cases h : n < -605 ∨ 605 ≤ n
  · unfold parAt
    have h2 := findP_out n h
    have h3 : toP n = none := by unfold toP; rw [h2]
    rw [h3]
  · have := List.all_eq_true.1 par_all (n + 605).toNat (by simp; omega)
    rwa [show (((n + 605).toNat : Nat) : Int) - 605 = n by omega] at this
theorem par_of {n : Int} {p : PathL} {k : Nat} (h : toP n = some p) (hl : p.metas.length = k + 1) : ∃ x s q, p.metas[k]? = some x ∧ p.slots[k]? = some s ∧ toP x = some q ∧ p.metas = q.metas ++ [x] ∧ p.slots = q.slots ++ [s] ∧ p.root = q.root ∧ -605 ≤ x ∧ x ≤ 605 ∧ s ≤ 605 := by
  have h1 := parAt_any n
  unfold parAt at h1
  rw [h] at h1
  dsimp only at h1
  rw [hl, Nat.add_sub_cancel] at h1
  split at h1
  · rename_i x s hx hs
    split at h1
    · rename_i q hq
      simp only [Bool.and_eq_true, decide_eq_true_eq] at h1
      obtain ⟨⟨⟨⟨a, b⟩, c⟩, d⟩, e⟩ := h1
      exact ⟨x, s, q, hx, hs, hq, a, b, c, d.1, d.2, e⟩
    · simp at h1
  · have h2 := of_decide_eq_true h1
    rw [h2] at hl
    cases hl
  · cases h1
end Go.Proofs.YtakflabokbaibaaDoor
