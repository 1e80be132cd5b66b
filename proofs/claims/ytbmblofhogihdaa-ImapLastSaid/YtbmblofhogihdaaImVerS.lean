/- What holds at each step of marllaw11.ImapVersions, in plain lists. No program in sight. -/
import Derived.Test.YtbmblofhogihdaaImS
namespace Go.Proofs.Ytbmblofhogihdaa
open Go.RowKit

theorem set_some {α : Type} {l : List α} {t i : Nat} {x y : α} (h : (l.set t y)[i]? = some x) : (i = t ∧ x = y) ∨ (i ≠ t ∧ l[i]? = some x) := by
  by_cases hi : i = t
  · subst hi
    by_cases hl : i < l.length
    · rw [List.getElem?_set_self hl] at h; injection h with h; exact .inl ⟨rfl, h.symm⟩
    · rw [List.getElem?_eq_none (by rw [List.length_set]; omega)] at h; cases h
  · rw [List.getElem?_set_ne (by omega)] at h; exact .inr ⟨hi, h⟩
structure VInv (n j : Nat) (L : List Ent) (GV : List Bool) (W : List Int) : Prop where
  hL : L.length = n
  hG : GV.length = n + 1
  hW : W.length = n + 1
  b0 : ∀ x : Ent, L[0]? = some x → x.busy = false
  g : ∀ (i : Nat) (x : Ent), L[i]? = some x → GV[i + 1]? = some x.busy
  v : ∀ (i : Nat) (x : Ent), L[i]? = some x → x.ver ≤ j
  u : ∀ (i : Nat) (x : Ent) (y : Int), L[i]? = some x → W[i + 1]? = some y → (x.busy = false → y < x.ver) ∧ y ≤ x.ver
section
variable {n j : Nat} {L : List Ent} {GV : List Bool} {W : List Int}
theorem VInv.mono (h : VInv n j L GV W) {j' : Nat} (hj : j ≤ j') : VInv n j' L GV W :=
  { h with v := fun i x hx => Nat.le_trans (h.v i x hx) hj }
theorem VInv.alloc (h : VInv n j L GV W) {t : Nat} {e : Ent} (he : L[t]? = some e) (ht : 1 ≤ t) :
    VInv n (j + 1) (L.set t ⟨e.addr, e.ver, true⟩) (GV.set (t + 1) true) (W.set (t + 1) (e.ver : Int)) := by
  have htl := (List.getElem?_eq_some_iff.1 he).1
  refine ⟨by rw [List.length_set]; exact h.hL, by rw [List.length_set]; exact h.hG, by rw [List.length_set]; exact h.hW, ?_, ?_, ?_, ?_⟩
  · intro x hx
    rw [List.getElem?_set_ne (by omega)] at hx
    exact h.b0 x hx
  · intro i x hx
    rcases set_some hx with ⟨rfl, rfl⟩ | ⟨hi, hx⟩
    · rw [List.getElem?_set_self (by rw [h.hG]; have := h.hL; omega)]
    · rw [List.getElem?_set_ne (by omega)]; exact h.g i x hx
  · intro i x hx
    rcases set_some hx with ⟨rfl, rfl⟩ | ⟨hi, hx⟩
    · have := h.v i e he; show e.ver ≤ j + 1; omega
    · have := h.v i x hx; omega
  · intro i x y hx hy
    rcases set_some hx with ⟨rfl, rfl⟩ | ⟨hi, hx⟩
    · rcases set_some hy with ⟨_, rfl⟩ | ⟨hi, _⟩
      · exact ⟨fun hb => (by cases hb), Int.le_refl _⟩
      · exact absurd rfl hi
    · rcases set_some hy with ⟨h1, _⟩ | ⟨_, hy⟩
      · omega
      · exact h.u i x y hx hy
theorem VInv.addr (h : VInv n j L GV W) {t : Nat} {e : Ent} (he : L[t]? = some e) (hb : e.busy = true) (a : Nat) : VInv n (j + 1) (L.set t ⟨a, e.ver, true⟩) GV W := by
  refine ⟨by rw [List.length_set]; exact h.hL, h.hG, h.hW, ?_, ?_, ?_, ?_⟩
  · intro x hx
    rcases set_some hx with ⟨rfl, rfl⟩ | ⟨hi, hx⟩
    · have := h.b0 e he; rw [hb] at this; cases this
    · exact h.b0 x hx
  · intro i x hx
    rcases set_some hx with ⟨rfl, rfl⟩ | ⟨hi, hx⟩
    · have := h.g i e he; rw [hb] at this; exact this
    · exact h.g i x hx
  · intro i x hx
    rcases set_some hx with ⟨rfl, rfl⟩ | ⟨hi, hx⟩
    · have := h.v i e he; show e.ver ≤ j + 1; omega
    · have := h.v i x hx; omega
  · intro i x y hx hy
    rcases set_some hx with ⟨rfl, rfl⟩ | ⟨hi, hx⟩
    · exact ⟨fun hb => (by cases hb), (h.u i e y he hy).2⟩
    · exact h.u i x y hx hy
theorem VInv.free (h : VInv n j L GV W) {t : Nat} {e : Ent} (he : L[t]? = some e) : VInv n (j + 1) (L.set t ⟨0, e.ver + 1, false⟩) (GV.set (t + 1) false) W := by
  have htl := (List.getElem?_eq_some_iff.1 he).1
  refine ⟨by rw [List.length_set]; exact h.hL, by rw [List.length_set]; exact h.hG, h.hW, ?_, ?_, ?_, ?_⟩
  · intro x hx
    rcases set_some hx with ⟨rfl, rfl⟩ | ⟨hi, hx⟩
    · rfl
    · exact h.b0 x hx
  · intro i x hx
    rcases set_some hx with ⟨rfl, rfl⟩ | ⟨hi, hx⟩
    · rw [List.getElem?_set_self (by rw [h.hG]; have := h.hL; omega)]
    · rw [List.getElem?_set_ne (by omega)]; exact h.g i x hx
  · intro i x hx
    rcases set_some hx with ⟨rfl, rfl⟩ | ⟨hi, hx⟩
    · have := h.v i e he; show e.ver + 1 ≤ j + 1; omega
    · have := h.v i x hx; omega
  · intro i x y hx hy
    rcases set_some hx with ⟨rfl, rfl⟩ | ⟨hi, hx⟩
    · have := (h.u i e y he hy).2
      have h2 : y < (e.ver : Int) + 1 := by omega
      exact ⟨fun _ => by show y < ((e.ver + 1 : Nat) : Int); omega, by show y ≤ ((e.ver + 1 : Nat) : Int); omega⟩
    · exact h.u i x y hx hy
theorem VInv.same (h : VInv n j L GV W) {t : Nat} {e : Ent} (he : L[t]? = some e) (hb : e.busy = false) : GV.set (t + 1) false = GV := by
  have := h.g t e he
  rw [hb] at this
  obtain ⟨hl, h2⟩ := List.getElem?_eq_some_iff.1 this
  rw [← h2]; exact List.set_getElem_self hl
theorem VInv.start (hn : 1 ≤ n) : VInv n 0 (List.replicate n noEnt) (List.replicate (n + 1) false) (List.replicate (n + 1) (-1)) := by
  refine ⟨by simp, by simp, by simp, ?_, ?_, ?_, ?_⟩
  · intro x hx
    rw [List.getElem?_replicate] at hx
    split at hx
    · injection hx with hx; subst hx; rfl
    · cases hx
  · intro i x hx
    rw [List.getElem?_replicate] at hx
    split at hx
    · injection hx with hx; subst hx
      rw [List.getElem?_replicate, if_pos (by omega)]; rfl
    · cases hx
  · intro i x hx
    rw [List.getElem?_replicate] at hx
    split at hx
    · injection hx with hx; subst hx; exact Nat.le_refl _
    · cases hx
  · intro i x y hx hy
    rw [List.getElem?_replicate] at hx hy
    split at hx
    · injection hx with hx; subst hx
      split at hy
      · injection hy with hy; subst hy; exact ⟨fun _ => by decide, by decide⟩
      · cases hy
    · cases hx
/-- The first that can be given, or none. -/
theorem first_gives (L : List Ent) : (∃ t e, L[t]? = some e ∧ 1 ≤ t ∧ e.gives = true ∧ ∀ i x, L[i]? = some x → 1 ≤ i → i < t → x.gives = false) ∨ (∀ i x, L[i]? = some x → 1 ≤ i → x.gives = false) := by
  have : ∀ k, (∃ t e, L[t]? = some e ∧ 1 ≤ t ∧ e.gives = true ∧ ∀ i x, L[i]? = some x → 1 ≤ i → i < t → x.gives = false) ∨ (∀ i x, L[i]? = some x → 1 ≤ i → i < k → x.gives = false) := by
    intro k
    induction k with
    | zero => exact .inr fun i x _ _ h => by omega
    | succ k ih =>
      rcases ih with ih | ih
      · exact .inl ih
      · cases hk : L[k]? with
        | none =>
          refine .inr fun i x hx h1 h2 => ?_
          by_cases e : i = k
          · subst e; rw [hk] at hx; cases hx
          · exact ih i x hx h1 (by omega)
        | some e =>
          by_cases hg : e.gives = true ∧ 1 ≤ k
          · exact .inl ⟨k, e, hk, hg.2, hg.1, ih⟩
          · refine .inr fun i x hx h1 h2 => ?_
            by_cases e' : i = k
            · subst e'; rw [hk] at hx; injection hx with hx; subst hx
              by_cases hh : e.gives = true
              · exact absurd ⟨hh, h1⟩ hg
              · simpa using hh
            · exact ih i x hx h1 (by omega)
  rcases this L.length with h | h
  · exact .inl h
  · exact .inr fun i x hx h1 => h i x hx h1 (List.getElem?_eq_some_iff.1 hx).1
theorem noroom {L : List Ent} (h : ∀ i x, L[i]? = some x → 1 ≤ i → x.gives = false) : (L.drop 1).countP Ent.gives = 0 := by
  rw [List.countP_eq_zero]
  intro x hx
  obtain ⟨i, hi, rfl⟩ := List.getElem_of_mem hx
  have : L[i + 1]? = some (L.drop 1)[i] := by
    rw [← List.getElem?_eq_getElem hi, List.getElem?_drop, Nat.add_comm]
  rw [h (i + 1) _ this (by omega)]
  simp
end
/-- The cells of a row of numbers of either sign. -/
def wasA (l : List Int) : Array Value := (l.map (Value.int .i64)).toArray
theorem wasA_get (l : List Int) (i : Nat) (hi : i < l.length) : (wasA l)[i]? = some (.int .i64 l[i]) := by simp [wasA, hi]
theorem wasA_set (l : List Int) (i : Nat) (n : Int) : (wasA l).setIfInBounds i (.int .i64 n) = wasA (l.set i n) := by simp [wasA, List.map_set]
end Go.Proofs.Ytbmblofhogihdaa
