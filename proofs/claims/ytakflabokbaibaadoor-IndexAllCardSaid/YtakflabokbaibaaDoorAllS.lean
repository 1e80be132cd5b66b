/- The law IndexAll in plain numbers: the list of all blocks of pointers, and how much of it a stretch of data has. -/
import Derived.Test.YtakflabokbaibaaDoorFallS
set_option linter.unusedVariables false
set_option linter.unusedSimpArgs false
namespace Go.Proofs.YtakflabokbaibaaDoor

/-- All, each with the first data that it covers. -/
def allLF : List (Int × Nat) := [(-6, 6), (-23, 22), (-22, 22), (-38, 38), (-54, 54), (-70, 70), (-86, 86), (-102, 102), (-118, 118), (-134, 134), (-150, 150), (-166, 166), (-182, 182), (-198, 198), (-214, 214), (-230, 230), (-246, 246), (-262, 262), (-280, 278), (-279, 278), (-278, 278), (-294, 294), (-310, 310), (-326, 326), (-342, 342), (-358, 358), (-374, 374), (-390, 390), (-406, 406), (-422, 422), (-438, 438), (-454, 454), (-470, 470), (-486, 486), (-502, 502), (-518, 518), (-535, 534), (-534, 534), (-550, 550), (-566, 566), (-582, 582), (-598, 598)]
def allLI : List Int := allLF.map (·.1)
/-- How many of them begin below. -/
def cntN (k : Nat) : Nat := (allLF.filter fun x => decide (x.2 < k)).length
def stepAt (k : Nat) : Bool := decide (addAll (allLI.take (cntN k)) (match toP (k : Int) with | some p => p.metas | none => []) = allLI.take (cntN (k + 1)))
theorem step_all : (List.range 600).all stepAt = true := by decide +kernel
theorem metasN_zero_succ (k : Nat) : metasN 0 (k + 1) = addAll (metasN 0 k) (match toP (k : Int) with | some p => p.metas | none => []) := by
  have h : (0 + k : Nat) = k := Nat.zero_add k
  conv => lhs; unfold metasN
  rw [h]
  cases toP (k : Int) <;> rfl
theorem metas_all : ∀ k, k ≤ 600 → metasN 0 k = allLI.take (cntN k)
  | 0, _ => by decide +kernel
  | k + 1, h => by
    have h1 := metas_all k (by omega)
    have h2 := List.all_eq_true.1 step_all k (List.mem_range.2 (by omega))
    have h3 : addAll (allLI.take (cntN k)) (match toP (k : Int) with | some p => p.metas | none => []) = allLI.take (cntN (k + 1)) := of_decide_eq_true h2
    rw [← h3, ← h1]
    exact metasN_zero_succ k
/-- What the law asks of each. -/
def itemAt (i : Nat) : Bool := match allLF[i]? with
  | none => false
  | some (m, f) => match parentP m, findP m with
    | some (p, _), some (l, g) => decide (g = f) && decide (1 ≤ l) && decide (1 ≤ manyN l g) && decide (-605 ≤ m ∧ m ≤ 605) && decide (m ∉ allLI.take i) && decide (p = 600 ∨ p ∈ allLI.take i)
    | _, _ => false
theorem item_all : (List.range 42).all itemAt = true := by decide +kernel
theorem cntN_le (k : Nat) : cntN k ≤ 42 := List.length_filter_le _ _
def cntAt (k : Nat) : Bool := decide ((0 < cntN k) = (6 < k)) && (List.range (cntN k)).all fun i => match allLF[i]? with
  | none => false
  | some (_, f) => decide (f < k)
theorem cnt_all : (List.range 601).all cntAt = true := by decide +kernel
theorem cnt_len {k : Nat} (hk : k ≤ 600) : (metasN 0 k).length = cntN k := by
  rw [metas_all k hk, List.length_take]
  have h1 := cntN_le k
  have h2 : allLI.length = 42 := rfl
  omega
theorem cnt_pos {k : Nat} (hk : k ≤ 600) : (0 < cntN k) = (6 < k) := by
  have h2 := List.all_eq_true.1 cnt_all k (List.mem_range.2 (by omega))
  unfold cntAt at h2
  rw [Bool.and_eq_true] at h2
  exact of_decide_eq_true h2.1
/-- An item of a stretch's list. -/
theorem all_item {k i : Nat} {m : Int} (hk : k ≤ 600) (hm : (metasN 0 k)[i]? = some m) : ∃ p s l f, parentP m = some (p, s) ∧ findP m = some (l, f) ∧ 1 ≤ l ∧ 1 ≤ manyN l f ∧ f < k ∧ (-605 ≤ m ∧ m ≤ 605) ∧ m ∉ (metasN 0 k).take i ∧ (p = 600 ∨ p ∈ (metasN 0 k).take i) := by
  have hi := (List.getElem?_eq_some_iff.1 hm).1
  rw [cnt_len hk] at hi
  have h42 := cntN_le k
  have htake : (metasN 0 k).take i = allLI.take i := by rw [metas_all k hk, List.take_take, Nat.min_eq_left (by omega)]
  have hget : allLI[i]? = some m := by
    rw [metas_all k hk, List.getElem?_take, if_pos hi] at hm
    exact hm
  have h1 := List.all_eq_true.1 item_all i (List.mem_range.2 (by omega))
  have h2 := List.all_eq_true.1 cnt_all k (List.mem_range.2 (by omega))
  unfold cntAt at h2
  rw [Bool.and_eq_true] at h2
  have h3 := List.all_eq_true.1 h2.2 i (List.mem_range.2 hi)
  unfold itemAt at h1
  unfold allLI at hget
  rw [List.getElem?_map] at hget
  rcases h4 : allLF[i]? with _ | ⟨m', f⟩
  · rw [h4] at hget; cases hget
  · rw [h4] at hget h1 h3
    have e : m' = m := Option.some.inj hget
    subst e
    dsimp only at h1 h3
    rcases h5 : parentP m' with _ | ⟨p, s⟩
    · rw [h5] at h1; cases h1
    · rcases h6 : findP m' with _ | ⟨l, g⟩
      · rw [h5, h6] at h1; cases h1
      · rw [h5, h6] at h1
        simp only [Bool.and_eq_true, decide_eq_true_eq] at h1 h3
        obtain ⟨⟨⟨⟨⟨e1, e2⟩, e3⟩, e4⟩, e5⟩, e6⟩ := h1
        subst e1
        rw [htake]
        exact ⟨p, s, l, g, rfl, rfl, e2, e3, h3, e4, e5, e6⟩
end Go.Proofs.YtakflabokbaibaaDoor
