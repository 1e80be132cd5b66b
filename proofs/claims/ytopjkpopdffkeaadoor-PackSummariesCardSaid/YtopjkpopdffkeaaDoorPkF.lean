/- A row of the call's own of what is told of files. -/
import Derived.Test.YtopjkpopdffkeaaDoorPkPl1W
set_option linter.unusedVariables false
set_option linter.unusedSimpArgs false
namespace Go.Proofs.YtopjkpopdffkeaaDoor
open Go.RowKit

def FRow (base : Nat) (w : World) (A : Option Addr) (n c : Nat) (fs : List FI) : Prop :=
  ∃ cs : List (List Value), fs.length = n ∧ cs.length = n ∧ w.ownsRow base 28 3 (.slice A n c) n cs.flatten ∧ ∀ (j : Nat) (x : List Value) (f : FI), cs[j]? = some x → fs[j]? = some f → FiC base base w x f
theorem etyF : EtyK Tryd.prog 22 28 (.agg #[.int .i64 0, .int .i64 0, .slice none 0 0]) 3 40 := EtyK.mk' Tryd.underlying22 (by kernel_rfl) (by kernel_rfl) (by decide) (by decide)
section
variable {base n c : Nat} {w w' : World} {A : Option Addr} {fs : List FI}
theorem FRow.fis (h : FRow base w A n c fs) : FisAt base base w A n fs := by
  obtain ⟨cs, h1, h2, h3, h4⟩ := h
  exact ⟨cs, h1, h2, RwAt.of_own h3, h4⟩
theorem FRow.len (h : FRow base w A n c fs) : fs.length = n := by obtain ⟨cs, h1, -⟩ := h; exact h1
theorem FRow.blk (h : FRow base w A n c fs) {g : Nat} (hg : (Value.slice A n c).ownBlock = some g) : base ≤ g ∧ ∃ cs, Blk w g 28 cs := by
  obtain ⟨cs, h1, h2, h3, h4⟩ := h
  rcases h3.2 with ⟨e, -⟩ | ⟨g', cap, cur, e1, e2, e3, e4⟩
  · injection e with e _ _
    subst e
    cases hg
  · injection e1 with e1 _ _
    subst e1
    simp [Value.ownBlock] at hg
    subst hg
    exact ⟨e2, cur, e3⟩
theorem FRow.below (h : FRow base w A n c fs) (hb : Below w.heap.size w w') : FRow base w' A n c fs := by
  obtain ⟨cs, h1, h2, h3, h4⟩ := h
  exact ⟨cs, h1, h2, own_bel h3 hb, fun j x f hx hf => (h4 j x f hx hf).kt (T := []) (Kt.of_below hb) (by simp)⟩
theorem fis_len {lo m : Nat} (h : FisAt lo base w A m fs) (e : m = fs.length) : FisAt lo base w A fs.length fs := e ▸ h
/-- A cell of a block that is none of theirs. -/
theorem FRow.far (h : FRow base w A n c fs) {p : Addr} {t : TypeId} {cs : Array Value} (hB : Blk w p.block t cs) (hb : base ≤ p.block) (h1 : t ≠ 3) (h2 : t ≠ 28) (u : Value) : FRow base (w.setCell p u) A n c fs := by
  have h' := h
  obtain ⟨ds, e1, e2, e3, e4⟩ := h
  refine ⟨ds, e1, e2, e3.keep_far (fun g hg => ?_) u, fun j x f hx hf => (e4 j x f hx hf).kt (T := [t]) ((Kt.refl _ _ _).set (.inl ⟨hb, fun t' cs' hB' => by simp [(Blk.type hB' hB).1]⟩) u) (by simpa using Ne.symm h1)⟩
  obtain ⟨-, cs', hB'⟩ := h'.blk hg
  rintro rfl
  exact h2 (Blk.type hB hB').1
/-- More of them, in the row that append has left. -/
theorem FRow.app {m k c' : Nat} {A' : Option Addr} {gs : List FI} {cs ds : List (List Value)} (h1 : fs.length = n) (h2 : cs.length = n) (h3 : w.ownsRow base 28 3 (.slice A n c) n cs.flatten)
    (h4 : ∀ (j : Nat) (x : List Value) (f : FI), cs[j]? = some x → fs[j]? = some f → FiC base base w x f) (g1 : gs.length = k) (g2 : ds.length = k) (g4 : ∀ (j : Nat) (x : List Value) (f : FI), ds[j]? = some x → gs[j]? = some f → FiC base base w x f) (hm : m = n + k)
    (r1 : w'.ownsRow base 28 3 (.slice A' m c') m (cs.flatten ++ ds.flatten)) (r2 : w.grownBy w' (Value.slice A n c).ownBlock) : FRow base w' A' m c' (fs ++ gs) := by
  have hk : Kt [28] base w w' := Kt.gr r2 (fun g hg => by
    obtain ⟨hb, cs', hB⟩ := FRow.blk ⟨cs, h1, h2, h3, h4⟩ hg
    exact ⟨hb, _, cs', hB, by simp⟩)
  subst hm
  refine ⟨cs ++ ds, by rw [List.length_append]; omega, by rw [List.length_append]; omega, by rw [List.flatten_append]; exact r1, fun j y q hy hq => ?_⟩
  rcases Nat.lt_or_ge j n with hj | hj
  · rw [List.getElem?_append_left (by omega)] at hy hq
    exact (h4 j y q hy hq).kt hk (by decide)
  · rw [List.getElem?_append_right (by omega)] at hy hq
    rw [h2] at hy
    rw [h1] at hq
    exact (g4 _ y q hy hq).kt hk (by decide)
/-- One of them, to be written. -/
theorem FRow.at (h : FRow base w A n c fs) {j : Nat} (hj : j < n) : ∃ g f A1 c1, A = some ⟨g, 0, none⟩ ∧ base ≤ g ∧ (∃ cs, Blk w g 28 cs) ∧ fs[j]? = some f ∧ IntsAt base base w A1 f.ls.length f.ls ∧
    w.cell? ⟨g, j * 3 + 2, none⟩ = some (.slice A1 f.ls.length c1) ∧
    ∀ (w' : World) (A2 : Option Addr) (c2 : Nat) (l : List Int), Below w.heap.size w w' → IntsAt base base w' A2 l.length l → FRow base (w'.setCell ⟨g, j * 3 + 2, none⟩ (.slice A2 l.length c2)) A n c (fs.set j { f with ls := l }) := by
  obtain ⟨cs, h1, h2, h3, h4⟩ := h
  have hf : fs[j]? = some (fs[j]'(by omega)) := List.getElem?_eq_getElem _
  have hx : cs[j]? = some (cs[j]'(by omega)) := List.getElem?_eq_getElem _
  obtain ⟨A1, c1, e, r1⟩ := h4 j _ _ hx hf
  obtain ⟨k1, -⟩ := fis_cells (by omega) h4
  obtain ⟨g, hA⟩ : ∃ g, A = some ⟨g, 0, none⟩ := by
    rcases h3.2 with ⟨-, h0⟩ | ⟨g, cap, cur, hv, -⟩
    · omega
    · injection hv with hv1 _ _; exact ⟨g, hv1⟩
  subst hA
  obtain ⟨hbg, cs', hB⟩ := FRow.blk ⟨cs, h1, h2, h3, h4⟩ (g := g) rfl
  have h5 := flatten_getR cs k1 j 2 (by decide)
  rw [hx, Option.bind_some, e] at h5
  have h6 := h3.cells (g := g) rfl _ _ (h5.trans rfl)
  rw [Addr.add_mid, Nat.zero_add] at h6
  refine ⟨g, _, A1, c1, rfl, hbg, ⟨cs', hB⟩, hf, r1, h6, fun w' A2 c2 l hb hi => ?_⟩
  have hB' := hB.below hb
  have hk : Kt [28] base w' (w'.setCell ⟨g, j * 3 + 2, none⟩ (.slice A2 l.length c2)) := (Kt.refl _ _ _).set (.inl ⟨hbg, fun t cs hB2 => by have := (Blk.type hB2 hB').1; subst this; simp⟩) _
  have hk0 : Kt [28] base w (w'.setCell ⟨g, j * 3 + 2, none⟩ (.slice A2 l.length c2)) := (Kt.of_below hb).trans hk
  refine ⟨cs.set j (fiV { fs[j] with ls := l } A2 c2), by rw [List.length_set]; exact h1, by rw [List.length_set]; exact h2, ?_, fun i x q hx' hq' => ?_⟩
  · have h7 := own_setk (own_bel h3 hb) rfl (show j * 3 + 2 < n * 3 by omega) (.slice A2 l.length c2)
    rw [flatten_set1 cs k1 j (by omega) 2 (by decide)] at h7
    have e2 : (cs[j]'(by omega)).set 2 (.slice A2 l.length c2) = fiV { fs[j] with ls := l } A2 c2 := by rw [e]; rfl
    rwa [e2] at h7
  · by_cases e' : j = i
    · subst e'
      rw [List.getElem?_set_self (by omega)] at hx' hq'
      injection hx' with hx'
      injection hq' with hq'
      subst hx' hq'
      exact ⟨A2, c2, rfl, RwAt.kt hi hk (by decide)⟩
    · rw [List.getElem?_set_ne e'] at hx' hq'
      exact (h4 i x q hx' hq').kt hk0 (by decide)
end
end Go.Proofs.YtopjkpopdffkeaaDoor
