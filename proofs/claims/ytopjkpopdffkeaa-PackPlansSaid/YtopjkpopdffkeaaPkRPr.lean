/- The reference's pieces, as they lie in memory. -/
import Derived.Test.YtopjkpopdffkeaaPkItemW
import Derived.Test.YtopjkpopdffkeaaCOK
import Derived.Test.YtopjkpopdffkeaaLast
namespace Go.Proofs.Ytopjkpopdffkeaa
open Go.RowKit

abbrev RP := Bool × List RI
def rpV (p : RP) (A : Option Addr) (c : Nat) : List Value := [.bool p.1, .slice A p.2.length c]
def RpC (base : Nat) (w : World) (x : List Value) (p : RP) : Prop := ∃ A c, x = rpV p A c ∧ ItAt base base w A p.2.length p.2
/-- A row of them of the call's own. -/
def RpR (base : Nat) (w : World) (A : Option Addr) (n c : Nat) (ps : List RP) : Prop :=
  ∃ cs : List (List Value), ps.length = n ∧ cs.length = n ∧ w.ownsRow base 43 2 (.slice A n c) n cs.flatten ∧ ∀ (j : Nat) (x : List Value) (p : RP), cs[j]? = some x → ps[j]? = some p → RpC base w x p
abbrev TR : List TypeId := [43]
theorem etyRp : EtyK Try.prog 34 43 (.agg #[.bool false, .slice none 0 0]) 2 32 := EtyK.mk' Try.underlying34 (by kernel_rfl) (by kernel_rfl) (by decide) (by decide)
theorem one_rp (w : World) (xs : Array Value) (h : xs.size = 2) : (Instr.buildSlice 34 1 #[(0, .agg xs)]).run Try.prog w = .ok (.slice (some ⟨w.heap.size, 0, none⟩) 1 1) (w.alloc (.cells xs 43)) := one_slice etyRp w xs h (by decide)
section
variable {base n c : Nat} {w w' : World} {A : Option Addr} {ps : List RP}
theorem RpC.kt {T : List TypeId} {x : List Value} {p : RP} (h : RpC base w x p) (hk : Kt T base w w') (hT : 61 ∉ T) : RpC base w' x p := by
  obtain ⟨A, c, e, h1⟩ := h
  exact ⟨A, c, e, RwAt.kt h1 hk hT⟩
theorem RpC.one {x : List Value} {p : RP} (h : RpC base w x p) : x.length = 2 ∧ ∀ u ∈ x, u.oneCell' = true := by
  obtain ⟨A1, c1, rfl, -⟩ := h
  refine ⟨rfl, fun u hu => ?_⟩
  simp only [rpV, List.mem_cons, List.not_mem_nil, or_false] at hu
  rcases hu with rfl | rfl <;> rfl
theorem rp_cells {cs : List (List Value)} (hl : ps.length = cs.length) (h : ∀ (j : Nat) (x : List Value) (p : RP), cs[j]? = some x → ps[j]? = some p → RpC base w x p) : ∀ x ∈ cs, x.length = 2 := fun x hx => by
  obtain ⟨j, hj, e⟩ := List.getElem_of_mem hx
  exact (h j x (ps[j]'(by omega)) (by rw [List.getElem?_eq_getElem hj, e]) (List.getElem?_eq_getElem (by omega))).one.1
theorem RpR.len (h : RpR base w A n c ps) : ps.length = n := by obtain ⟨cs, h1, -⟩ := h; exact h1
theorem RpR.nil : RpR base w none 0 0 [] := ⟨[], rfl, rfl, World.ownsRow_nil _ _ _ _, by simp⟩
theorem RpR.blk (h : RpR base w A n c ps) {g : Nat} (hg : (Value.slice A n c).ownBlock = some g) : base ≤ g ∧ ∃ cs, Blk w g 43 cs := by
  obtain ⟨cs, h1, h2, h3, h4⟩ := h
  rcases h3.2 with ⟨e, -⟩ | ⟨g', cap, cur, e1, e2, e3, e4⟩
  · injection e with e _ _
    subst e
    cases hg
  · injection e1 with e1 _ _
    subst e1
    simp [Value.ownBlock] at hg
    subst hg
    exact ⟨e2, cur, e3⟩
theorem RpR.below (h : RpR base w A n c ps) (hb : Below w.heap.size w w') : RpR base w' A n c ps := by
  obtain ⟨cs, h1, h2, h3, h4⟩ := h
  exact ⟨cs, h1, h2, own_bel h3 hb, fun j x p hx hp => (h4 j x p hx hp).kt (T := []) (Kt.of_below hb) (by simp)⟩
/-- A cell of a block that is not the row's own. -/
theorem RpR.far2 (h : RpR base w A n c ps) {p : Addr} {t : TypeId} {cs : Array Value} (hB : Blk w p.block t cs) (hb : base ≤ p.block) (h1 : t ≠ 61) (h2 : ∀ g, (Value.slice A n c).ownBlock = some g → g ≠ p.block) (u : Value) : RpR base (w.setCell p u) A n c ps := by
  obtain ⟨ds, e1, e2, e3, e4⟩ := h
  exact ⟨ds, e1, e2, e3.keep_far h2 u, fun j x f hx hf => (e4 j x f hx hf).kt (T := [t]) ((Kt.refl _ _ _).set (.inl ⟨hb, fun t' cs' hB' => by simp [(Blk.type hB' hB).1]⟩) u) (by simpa using Ne.symm h1)⟩
/-- One more, in the row that append has left. -/
theorem RpR.push {m c' : Nat} {A' : Option Addr} {cs : List (List Value)} {x : List Value} {p : RP} (h1 : ps.length = n) (h2 : cs.length = n) (h3 : w.ownsRow base 43 2 (.slice A n c) n cs.flatten)
    (h4 : ∀ (j : Nat) (x : List Value) (p : RP), cs[j]? = some x → ps[j]? = some p → RpC base w x p) (hx : RpC base w x p) (hm : m = n + 1)
    (r1 : w'.ownsRow base 43 2 (.slice A' m c') m (cs.flatten ++ x)) (r2 : w.grownBy w' (Value.slice A n c).ownBlock) : RpR base w' A' m c' (ps ++ [p]) ∧ Kt TR base w w' := by
  have hk : Kt TR base w w' := Kt.gr r2 (fun g hg => by
    obtain ⟨hb, cs', hB⟩ := RpR.blk ⟨cs, h1, h2, h3, h4⟩ hg
    exact ⟨hb, _, cs', hB, by simp⟩)
  subst hm
  refine ⟨⟨cs ++ [x], by rw [List.length_append]; simp; omega, by rw [List.length_append]; simp; omega, by rw [List.flatten_append]; simpa using r1, fun j y q hy hq => ?_⟩, hk⟩
  rcases Nat.lt_trichotomy j n with hj | hj | hj
  · rw [List.getElem?_append_left (by omega)] at hy hq
    exact (h4 j y q hy hq).kt hk (by decide)
  · subst hj
    rw [List.getElem?_append_right (by omega)] at hy hq
    simp only [h2, h1, Nat.sub_self, List.getElem?_cons_zero, Option.some.injEq] at hy hq
    subst hy hq
    exact hx.kt hk (by decide)
  · rw [List.getElem?_eq_none (by rw [List.length_append]; simp; omega)] at hy
    cases hy
/-- One of them. -/
theorem RpR.at (h : RpR base w A n c ps) {j : Nat} (hj : j < n) : ∃ g p A1 c1, A = some ⟨g, 0, none⟩ ∧ base ≤ g ∧ (∃ cs, Blk w g 43 cs) ∧ ps[j]? = some p ∧ ItAt base base w A1 p.2.length p.2 ∧
    w.cell? ⟨g, j * 2, none⟩ = some (.bool p.1) ∧ w.cell? ⟨g, j * 2 + 1, none⟩ = some (.slice A1 p.2.length c1) ∧
    ∀ (w' : World) (A2 : Option Addr) (c2 : Nat) (l : List RI), Below w.heap.size w w' → ItAt base base w' A2 l.length l → RpR base (w'.setCell ⟨g, j * 2 + 1, none⟩ (.slice A2 l.length c2)) A n c (ps.set j (p.1, l)) ∧ Kt TR base w' (w'.setCell ⟨g, j * 2 + 1, none⟩ (.slice A2 l.length c2)) := by
  obtain ⟨cs, h1, h2, h3, h4⟩ := h
  have hf : ps[j]? = some (ps[j]'(by omega)) := List.getElem?_eq_getElem _
  have hx : cs[j]? = some (cs[j]'(by omega)) := List.getElem?_eq_getElem _
  obtain ⟨A1, c1, e, r1⟩ := h4 j _ _ hx hf
  have k1 := rp_cells (by omega) h4
  obtain ⟨g, hA⟩ : ∃ g, A = some ⟨g, 0, none⟩ := by
    rcases h3.2 with ⟨-, h0⟩ | ⟨g, cap, cur, hv, -⟩
    · omega
    · injection hv with hv1 _ _; exact ⟨g, hv1⟩
  subst hA
  obtain ⟨hbg, cs', hB⟩ := RpR.blk ⟨cs, h1, h2, h3, h4⟩ (g := g) rfl
  have hg : ∀ k u, k < 2 → (rpV (ps[j]'(by omega)) A1 c1)[k]? = some u → w.cell? ⟨g, j * 2 + k, none⟩ = some u := fun k u hk hu => by
    have h5 := flatten_getR cs k1 j k hk
    rw [hx, Option.bind_some, e, hu] at h5
    have := h3.cells (g := g) rfl _ u h5
    rwa [Addr.add_mid, Nat.zero_add] at this
  refine ⟨g, _, A1, c1, rfl, hbg, ⟨cs', hB⟩, hf, r1, hg 0 _ (by decide) rfl, hg 1 _ (by decide) rfl, fun w' A2 c2 l hb hi => ?_⟩
  have hB' := hB.below hb
  have hk : Kt TR base w' (w'.setCell ⟨g, j * 2 + 1, none⟩ (.slice A2 l.length c2)) := (Kt.refl _ _ _).set (.inl ⟨hbg, fun t cs hB2 => by have := (Blk.type hB2 hB').1; subst this; simp⟩) _
  have hk0 : Kt TR base w (w'.setCell ⟨g, j * 2 + 1, none⟩ (.slice A2 l.length c2)) := (Kt.of_below hb).trans hk
  refine ⟨⟨cs.set j (rpV ((ps[j]'(by omega)).1, l) A2 c2), by rw [List.length_set]; exact h1, by rw [List.length_set]; exact h2, ?_, fun i x q hx' hq' => ?_⟩, hk⟩
  · have h7 := own_setk (own_bel h3 hb) rfl (show j * 2 + 1 < n * 2 by omega) (.slice A2 l.length c2)
    rw [flatten_set1 cs k1 j (by omega) 1 (by decide)] at h7
    have e2 : (cs[j]'(by omega)).set 1 (.slice A2 l.length c2) = rpV ((ps[j]'(by omega)).1, l) A2 c2 := by rw [e]; rfl
    rwa [e2] at h7
  · by_cases e' : j = i
    · subst e'
      rw [List.getElem?_set_self (by omega)] at hx' hq'
      injection hx' with hx'
      injection hq' with hq'
      subst hx' hq'
      exact ⟨A2, c2, rfl, RwAt.kt hi hk (by decide)⟩
    · rw [List.getElem?_set_ne e'] at hx' hq'
      exact (h4 i x q hx' hq').kt hk0 (by decide)
end
end Go.Proofs.Ytopjkpopdffkeaa
