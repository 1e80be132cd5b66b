/- The law IndexFalls in plain numbers: a parent's children in the order of its pointers. -/
import Derived.Test.YtakflabokbaibaaDoorIr1W
set_option linter.unusedVariables false
set_option linter.unusedSimpArgs false
namespace Go.Proofs.YtakflabokbaibaaDoor

def childF (p : Int) (i : Nat) : Nat := if p = 600 then (if i < 7 then i else if i = 7 then 22 else 278) else match findP p with
  | some (l, f) => f + i * 16 ^ (l - 1)
  | none => 0
def childN (p : Int) (i : Nat) : Int := if p = 600 then (if i < 6 then (i : Int) else if i = 6 then -6 else if i = 7 then -23 else -280) else match findP p with
  | some (l, f) => if l = 1 then ((f + i : Nat) : Int) else -((f + i * 16 ^ (l - 1) : Nat) : Int) - ((l : Int) - 2)
  | none => 0
def fallAt (n : Int) : Bool := match parentP n, findP n with
  | none, _ => true
  | some (p, i), some (l, f) => decide (f = childF p i) && decide (n = childN p i) && decide (1 ≤ manyN l f) && decide (-605 ≤ p ∧ p ≤ 600) && (if p = 600 then decide (i < 9) else match findP p with
    | some (lp, fp) => decide (lp = l + 1) && decide (i < 16) && decide (fp ≤ f) && decide (f + manyN l f ≤ fp + manyN lp fp)
    | none => false)
  | _, none => false
theorem fall_all : (List.range 1210).all (fun i => fallAt ((i : Int) - 605)) = true := by decide +kernel
theorem parentP_out (n : Int) (hn : n < -605 ∨ 605 ≤ n) : parentP n = none := by
  have h2 := findP_out n hn
  have h3 : toP n = none := by unfold toP; rw [h2]
  unfold parentP
  rw [h3]
theorem fallAt_any (n : Int) : fallAt n = true := by
  by_cases h : n < -605 ∨ 605 ≤ n
  · unfold fallAt
    rw [parentP_out n h]
  · have := List.all_eq_true.1 fall_all (n + 605).toNat (by simp; omega)
    rwa [show (((n + 605).toNat : Nat) : Int) - 605 = n by omega] at this
/-- What a child says of itself and of its parent. -/
theorem fall_of {n p : Int} {i : Nat} (h : parentP n = some (p, i)) : ∃ l f, findP n = some (l, f) ∧ f = childF p i ∧ n = childN p i ∧ 1 ≤ manyN l f ∧ (-605 ≤ p ∧ p ≤ 600) ∧ (p = 600 → i < 9) ∧ (p ≠ 600 → ∃ fp, findP p = some (l + 1, fp) ∧ i < 16 ∧ fp ≤ f ∧ f + manyN l f ≤ fp + manyN (l + 1) fp) := by
  have hf := fallAt_any n
  unfold fallAt at hf
  rw [h] at hf
  rcases h2 : findP n with _ | ⟨l, f⟩
  · rw [h2] at hf; cases hf
  · rw [h2] at hf
    simp only [Bool.and_eq_true, decide_eq_true_eq] at hf
    obtain ⟨⟨⟨⟨h3, h4⟩, h5⟩, h6⟩, h7⟩ := hf
    refine ⟨l, f, rfl, h3, h4, h5, h6, fun e => ?_, fun e => ?_⟩
    · rw [if_pos e] at h7; simpa using h7
    · rw [if_neg e] at h7
      rcases h8 : findP p with _ | ⟨lp, fp⟩
      · rw [h8] at h7; cases h7
      · rw [h8] at h7
        simp only [Bool.and_eq_true, decide_eq_true_eq] at h7
        obtain ⟨⟨⟨e1, e2⟩, e3⟩, e4⟩ := h7
        subst e1
        exact ⟨fp, rfl, e2, e3, e4⟩
theorem childF_lt {p : Int} {i j : Nat} (hp : (p = 600 ∧ i < 9 ∧ j < 9) ∨ (p ≠ 600 ∧ ∃ l f, findP p = some (l, f))) (hij : i < j) : childF p i < childF p j := by
  unfold childF
  rcases hp with ⟨rfl, h1, h2⟩ | ⟨h1, l, f, h2⟩
  · rw [if_pos rfl, if_pos rfl]
    by_cases a : i < 7 <;> by_cases b : j < 7 <;> by_cases c : i = 7 <;> by_cases d : j = 7 <;> simp [a, b, c, d] <;> omega
  · rw [if_neg h1, if_neg h1, h2]
    dsimp only
    have h3 : 0 < 16 ^ (l - 1) := Nat.pow_pos (by omega)
    have := Nat.mul_lt_mul_of_pos_right hij h3
    omega
/-- Children of one parent. -/
theorem falls_order {a b p : Int} {i j la x lb y : Nat} (ha : parentP a = some (p, i)) (hb : parentP b = some (p, j)) (fa : findP a = some (la, x)) (fb : findP b = some (lb, y)) : (i < j → x < y) ∧ (j < i → y < x) ∧ (i = j → a = b ∧ x = y) := by
  obtain ⟨l1, f1, e1, e2, e3, -, -, e4, e5⟩ := fall_of ha
  obtain ⟨l2, f2, g1, g2, g3, -, -, g4, g5⟩ := fall_of hb
  rw [fa] at e1; injection e1 with e1; injection e1 with e11 e12; subst e11 e12
  rw [fb] at g1; injection g1 with g1; injection g1 with g11 g12; subst g11 g12
  have hp : ∀ i' j' : Nat, (p = 600 → i' < 9 ∧ j' < 9) → (p = 600 ∧ i' < 9 ∧ j' < 9) ∨ (p ≠ 600 ∧ ∃ l f, findP p = some (l, f)) := fun i' j' hh => by
    by_cases e : p = 600
    · exact .inl ⟨e, hh e⟩
    · obtain ⟨fp, h, -⟩ := e5 e; exact .inr ⟨e, _, _, h⟩
  refine ⟨fun h => ?_, fun h => ?_, fun h => ?_⟩
  · rw [e2, g2]; exact childF_lt (hp i j fun e => ⟨e4 e, g4 e⟩) h
  · rw [e2, g2]; exact childF_lt (hp j i fun e => ⟨g4 e, e4 e⟩) h
  · subst h; exact ⟨by rw [e3, g3], by rw [e2, g2]⟩
theorem falls_four {a b p q : Int} {i j la x lb y : Nat} (ha : parentP a = some (p, i)) (hb : parentP b = some (q, j)) (fa : findP a = some (la, x)) (fb : findP b = some (lb, y)) :
    p ≠ q ∨ (p = q ∧ i < j ∧ x < y ∧ i ≠ j ∧ a ≠ b) ∨ (p = q ∧ ¬ i < j ∧ ¬ x < y ∧ i ≠ j ∧ a ≠ b) ∨ (p = q ∧ i = j ∧ a = b ∧ x = y) := by
  by_cases h : p = q
  · subst h
    obtain ⟨h1, h2, h3⟩ := falls_order ha hb fa fb
    have hab : i ≠ j → a ≠ b := fun hn e => by
      subst e
      rw [ha] at hb
      injection hb with hb; injection hb with _ hb
      exact hn hb
    rcases Nat.lt_trichotomy i j with h | h | h
    · exact .inr (.inl ⟨rfl, h, h1 h, by omega, hab (by omega)⟩)
    · exact .inr (.inr (.inr ⟨rfl, h, h3 h⟩))
    · have := h2 h
      exact .inr (.inr (.inl ⟨rfl, by omega, by omega, by omega, hab (by omega)⟩))
  · exact .inl h
end Go.Proofs.YtakflabokbaibaaDoor
