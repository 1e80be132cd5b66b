/- A map[int]int of the call's own: its keys, and that each counts at least one. -/
import Derived.Test.YtakflabokbaibaaDoorInts
import Derived.Maps.OwnSet
set_option linter.unusedVariables false
set_option linter.unusedSimpArgs false
namespace Go.Proofs.YtakflabokbaibaaDoor
open Go.RowKit Go.Maps

theorem lawI : Keyed Tryd.prog 3 := int_keyed Tryd.underlying3
theorem zeroI (w : World) : (zeroValue 3).run Tryd.prog w = .ok (.int .i64 0) w := by kernel_rfl
theorem wf64 (x : Int) (h : -9223372036854775808 ≤ x ∧ x ≤ 9223372036854775807) : (Lit.int .i64 x).wf = true := by
  exact WalkArith.wf_i64 h
/-- The map in block b: at most n stores, these keys. -/
def MapI (w : World) (b n : Nat) (ks : List Int) : Prop := ∃ D : DataW Unit, w.ownsMap Tryd.prog 3 (plainElem Tryd.prog 3) b n D ∧ Maps.size D = ks.length ∧ (∀ x : Int, Maps.has D (.int .i64 x) = decide (x ∈ ks)) ∧
  ∀ x ∈ ks, ∃ c : Int, 1 ≤ c ∧ c ≤ n ∧ D.atKey (.int .i64 x) (.lit (.int .i64 0)) = .lit (.int .i64 c)
theorem MapI.made (w : World) : MapI (w.alloc (.map #[] 0)) w.heap.size 0 [] :=
  ⟨.map [], World.ownsMap_made _ _ _ _, rfl, fun x => by simp [Maps.has], by simp⟩
theorem MapI.lt {w : World} {b n : Nat} {ks : List Int} (h : MapI w b n ks) : b < w.heap.size := by
  obtain ⟨D, h1, -⟩ := h; exact h1.lt
theorem MapI.below {w w' : World} {b n : Nat} {ks : List Int} (h : MapI w b n ks) (hb : Below w.heap.size w w') : MapI w' b n ks := by
  obtain ⟨D, ⟨es, clock, h1, h2⟩, h3⟩ := h
  exact ⟨D, ⟨es, clock, (hb.block b (Array.getElem?_eq_some_iff.1 h1).1).trans h1, h2⟩, h3⟩
theorem MapI.look {w : World} {b n : Nat} {ks : List Int} (h : MapI w b n ks) (x : Int) (hx : -9223372036854775808 ≤ x ∧ x ≤ 9223372036854775807) :
    ∃ c : Int, (Instr.lookup 32 (.map (some b)) (.int .i64 x) false).run Tryd.prog w = .ok (.int .i64 c) w ∧ (x ∈ ks → 1 ≤ c ∧ c ≤ n) ∧ (x ∉ ks → c = 0) := by
  obtain ⟨D, h1, h2, h3, h4⟩ := h
  obtain ⟨c, hrun, hat, -⟩ := h1.lookup_int lawI Tryd.underlying32 Tryd.underlying3 (zeroI w) (keyOf_int_mk Tryd.underlying3 (wf64 x hx))
  refine ⟨c, hrun, fun hm => ?_, fun hm => ?_⟩
  · obtain ⟨c', e1, e2, e3⟩ := h4 x hm
    rw [e3] at hat
    injection hat with hat; injection hat with _ hat
    subst hat
    exact ⟨e1, e2⟩
  · rw [Maps.atKey_of_not_has (by rw [h3]; simpa using hm)] at hat
    injection hat with hat; injection hat with _ hat
    exact hat.symm
theorem MapI.up {w : World} {b n : Nat} {ks : List Int} (h : MapI w b n ks) (x : Int) (hx : -9223372036854775808 ≤ x ∧ x ≤ 9223372036854775807) (hn : n ≤ 100000) (c : Int) (hc : 1 ≤ c ∧ c ≤ n + 1) :
    ∃ w', (Instr.mapUpdate 32 (.map (some b)) (.int .i64 x) (.int .i64 c)).run Tryd.prog w = .ok () w' ∧ MapI w' b (n + 1) (if x ∈ ks then ks else ks ++ [x]) ∧ w.grownBy w' (some b) := by
  obtain ⟨D, h1, h2, h3, h4⟩ := h
  obtain ⟨w', hrun, hown, hgr⟩ := h1.update lawI Tryd.underlying32 (by unfold maxLen; omega) (keyOf_int_mk Tryd.underlying3 (wf64 x hx)) (plainElem_int Tryd.underlying3 (wf64 c (by omega)))
  have hT := h1.tidy lawI
  have hk : WideAt.IsKeyLit (.int .i64 x) := trivial
  refine ⟨w', hrun, ⟨_, hown, ?_, fun y => ?_, fun y hy => ?_⟩, hgr⟩
  · rw [Maps.size_put hT, h3, h2]
    by_cases hm : x ∈ ks
    · simp [hm]
    · simp [hm]
  · by_cases e : y = x
    · subst e
      rw [Maps.has_put_same hT.isMap hk]
      by_cases hm : y ∈ ks <;> simp [hm]
    · have hne : (Lit.int .i64 y) ≠ (Lit.int .i64 x) := fun h => e (by injection h)
      rw [Maps.has_put_other hne, h3]
      by_cases hm : x ∈ ks <;> simp [hm, e]
  · by_cases e : y = x
    · subst e
      exact ⟨c, hc.1, by omega, Maps.atKey_put_same hT.isMap hk _ _⟩
    · have hne : (Lit.int .i64 y) ≠ (Lit.int .i64 x) := fun h => e (by injection h)
      have hy' : y ∈ ks := by
        split at hy
        · exact hy
        · rcases List.mem_append.1 hy with h | h
          · exact h
          · exact absurd (List.mem_singleton.1 h) e
      obtain ⟨c', e1, e2, e3⟩ := h4 y hy'
      exact ⟨c', e1, by omega, by rw [Maps.atKey_put_other hne]; exact e3⟩
theorem MapI.len {w : World} {b n : Nat} {ks : List Int} (h : MapI w b n ks) (ty : TypeId) : (Builtin.len_ #[32] ty #[.map (some b)]).run Tryd.prog w = .ok (.int .i64 ks.length) w := by
  obtain ⟨D, h1, h2, -⟩ := h
  rw [h1.len Tryd.underlying32 ty, h2]
end Go.Proofs.YtakflabokbaibaaDoor
