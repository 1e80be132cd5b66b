/- The law IndexOne in plain numbers. -/
import Derived.Test.YtakflabokbaibaaDoorFallS
set_option linter.unusedVariables false
set_option linter.unusedSimpArgs false
namespace Go.Proofs.YtakflabokbaibaaDoor

theorem natsI_inj {l m : List Nat} (h : natsI l = natsI m) : l = m := by
  unfold natsI at h
  have := congrArg (List.map Int.toNat) h
  simpa [List.map_map, Function.comp_def] using this
theorem parentP_of {a b : Int} (h : toP a = toP b) : parentP a = parentP b := by unfold parentP; rw [h]
theorem parentP_some {a : Int} {p : PathL} (h : toP a = some p) : ∃ q i, parentP a = some (q, i) := by
  unfold parentP
  rw [h]
  dsimp only
  split <;> exact ⟨_, _, rfl⟩
/-- A block's path tells which it is. -/
theorem toP_inj {a b : Int} {p : PathL} (ha : toP a = some p) (hb : toP b = some p) : a = b := by
  obtain ⟨q, i, h1⟩ := parentP_some ha
  have h2 : parentP b = some (q, i) := by rw [← h1]; exact parentP_of (hb.trans ha.symm)
  obtain ⟨-, -, -, -, e1, -⟩ := fall_of h1
  obtain ⟨-, -, -, -, e2, -⟩ := fall_of h2
  rw [e1, e2]
theorem path_same {a b : Int} {p q : PathL} (ha : toP a = some p) (hb : toP b = some q) : ((p.root : Int) = (q.root : Int) ∧ p.metas = q.metas ∧ natsI p.slots = natsI q.slots) ↔ a = b := by
  constructor
  · rintro ⟨h1, h2, h3⟩
    have h4 := natsI_inj h3
    have : p = q := by
      cases p; cases q
      simp only [PathL.mk.injEq]
      exact ⟨Int.ofNat.inj h1, h2, h4⟩
    subst this
    exact toP_inj ha hb
  · rintro rfl
    rw [ha] at hb
    injection hb with hb
    subst hb
    exact ⟨rfl, rfl, rfl⟩
/-- What the blocks on a way cover. -/
def oneAt (n : Int) : Bool := match toP n, findP n with
  | none, _ => true
  | some p, some (la, x) => (List.range p.metas.length).all fun i => match p.metas[i]?, p.slots[i]? with
    | some m, some s => (match findP m with
      | some (l, f) => decide (f ≤ x ∧ x < f + manyN l f ∧ s ≤ 15 ∧ l + i = p.metas.length + la ∧ -605 ≤ m ∧ m ≤ 605)
      | none => false)
    | _, _ => false
  | _, none => false
theorem one_all : (List.range 1210).all (fun i => oneAt ((i : Int) - 605)) = true := by decide +kernel
theorem oneAt_any (n : Int) : oneAt n = true := by
  by_cases h : n < -605 ∨ 605 ≤ n
  · unfold oneAt
    have h2 := findP_out n h
    have h3 : toP n = none := by unfold toP; rw [h2]
    rw [h3]
  · have := List.all_eq_true.1 one_all (n + 605).toNat (by simp; omega)
    rwa [show (((n + 605).toNat : Nat) : Int) - 605 = n by omega] at this
theorem toP_find {n : Int} {p : PathL} (h : toP n = some p) : ∃ la x, findP n = some (la, x) := by
  unfold toP at h
  split at h
  · cases h
  · rename_i l f hf; exact ⟨l, f, hf⟩
theorem one_of {n : Int} {p : PathL} {la x : Nat} (h : toP n = some p) (hf : findP n = some (la, x)) {i : Nat} {m : Int} (hi : p.metas[i]? = some m) : ∃ s l f, p.slots[i]? = some s ∧ findP m = some (l, f) ∧ f ≤ x ∧ x < f + manyN l f ∧ s ≤ 15 ∧ l + i = p.metas.length + la ∧ -605 ≤ m ∧ m ≤ 605 := by
  have h1 := oneAt_any n
  unfold oneAt at h1
  rw [h, hf] at h1
  have hlt := (List.getElem?_eq_some_iff.1 hi).1
  have h2 := List.all_eq_true.1 h1 i (List.mem_range.2 hlt)
  rw [hi] at h2
  rcases h3 : p.slots[i]? with _ | s
  · rw [h3] at h2; cases h2
  · rw [h3] at h2
    dsimp only at h2
    rcases h4 : findP m with _ | ⟨l, f⟩
    · rw [h4] at h2; cases h2
    · rw [h4] at h2
      simp only [decide_eq_true_eq] at h2
      exact ⟨s, l, f, rfl, rfl, h2⟩
end Go.Proofs.YtakflabokbaibaaDoor
