/- One operation of a drawn region taken first, in one short word. No program in sight. -/
import Derived.Deep.RegionHeld3
import Derived.WalkKit
namespace Go.Proofs.Ytbmblofhogihdaa
open Go.RowKit
section
variable {P : Program} {ops : Array Oper} {Q : Exit → Act → World → Prop} {md : Region.Mode} {S : World → Prop} {oi : Oper} {v : Value} {fuel : Nat} {listed l' : Array Bool} {a a' : Act} {w : World}
/-- Taken: it yields what it yields in every world that meets S. -/
theorem tk (i : Nat) (h : wpAnyH P md ops Q S fuel l' a' w)
    (hi : ops[i]? = some oi := by (simp only [List.getElem?_toArray, List.getElem?_cons_succ, List.getElem?_cons_zero]; rfl))
    (hs : Region.noSelect ops = true := by kernel_rfl) (hf : Region.free md ops listed i = true := by kernel_rfl) (hr : (Region.ready md ops listed).contains i = true := by kernel_rfl)
    (hQ : ∀ c a w, Q (.panic c) (a.put oi.dst v) w → Q (.panic c) a w := by exact fun _ _ _ h => h)
    (hw : Region.wanted oi (yielded ops a.tmps) = true := by rfl)
    (hv : ∀ w, S w → (execOp a.eval oi).run P w = .ok (.value v) w := by (intro w hSw; (try dsimp only at hSw); go_simp; try with_reducible rfl))
    (hS : S w := by assumption)
    (el : listed.setIfInBounds i true = l' := by (try simp only [List.setIfInBounds_toArray, List.set_cons_zero, List.set_cons_succ]); try rfl)
    (ea : a.put oi.dst v = a' := by (try simp only [Act.put, List.setIfInBounds_toArray, List.set_cons_zero, List.set_cons_succ]); try rfl) : wpAnyH P md ops Q S (fuel + 1) listed a w := by
  subst el ea
  exact wpAnyH_take hi hs hf hr hQ (.inl ⟨hw, hv⟩) hS h
/-- Left out: its guard says no. -/
theorem sk (i : Nat) (h : wpAnyH P md ops Q S fuel l' a' w)
    (hi : ops[i]? = some oi := by (simp only [List.getElem?_toArray, List.getElem?_cons_succ, List.getElem?_cons_zero]; rfl))
    (hs : Region.noSelect ops = true := by kernel_rfl) (hf : Region.free md ops listed i = true := by kernel_rfl) (hr : (Region.ready md ops listed).contains i = true := by kernel_rfl)
    (hQ : ∀ c a w, Q (.panic c) (a.put oi.dst undef) w → Q (.panic c) a w := by exact fun _ _ _ h => h)
    (hw : Region.wanted oi (yielded ops a.tmps) = false := by rfl)
    (hS : S w := by assumption)
    (el : listed.setIfInBounds i true = l' := by (try simp only [List.setIfInBounds_toArray, List.set_cons_zero, List.set_cons_succ]); try rfl)
    (ea : a.put oi.dst undef = a' := by (try simp only [Act.put, List.setIfInBounds_toArray, List.set_cons_zero, List.set_cons_succ]); try rfl) : wpAnyH P md ops Q S (fuel + 1) listed a w := by
  subst el ea
  exact wpAnyH_take hi hs hf hr hQ (.inr ⟨hw, rfl⟩) hS h
end
end Go.Proofs.Ytbmblofhogihdaa
