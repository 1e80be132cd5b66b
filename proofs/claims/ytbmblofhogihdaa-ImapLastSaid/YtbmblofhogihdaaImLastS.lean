/- What holds at each step of marllaw11.ImapLast, in plain lists. No program in sight. -/
import Derived.Test.YtbmblofhogihdaaImVerS
import Derived.Test.YtbmblofhogihdaaImSomeW
namespace Go.Proofs.Ytbmblofhogihdaa
open Go.RowKit

/-- One inode has the version vt, the others at most b; who is busy tells P. -/
structure LS (n t vt b : Nat) (P : Nat → Bool) (L : List Ent) : Prop where
  len : L.length = n
  tv : ∀ x : Ent, L[t]? = some x → x.ver = vt
  ov : ∀ (i : Nat) (x : Ent), L[i]? = some x → i ≠ t → x.ver ≤ b
  bz : ∀ (i : Nat) (x : Ent), L[i]? = some x → x.busy = P i
section
variable {n t vt b : Nat} {P P' : Nat → Bool} {L : List Ent}
theorem LS.mono (h : LS n t vt b P L) {b' : Nat} (hb : b ≤ b') (hP : ∀ i, i < n → P i = P' i) : LS n t vt b' P' L :=
  ⟨h.len, h.tv, fun i x hx hi => Nat.le_trans (h.ov i x hx hi) hb, fun i x hx => by rw [h.bz i x hx, hP i (by rw [← h.len]; exact (List.getElem?_eq_some_iff.1 hx).1)]⟩
theorem LS.give (h : LS n t vt b P L) {s : Nat} {e : Ent} (he : L[s]? = some e) (hP : ∀ i, P' i = if i = s then true else P i) : LS n t vt b P' (L.set s ⟨e.addr, e.ver, true⟩) := by
  refine ⟨by rw [List.length_set]; exact h.len, fun x hx => ?_, fun i x hx hi => ?_, fun i x hx => ?_⟩
  · rcases set_some hx with ⟨rfl, rfl⟩ | ⟨_, hx⟩
    · exact h.tv e he
    · exact h.tv x hx
  · rcases set_some hx with ⟨rfl, rfl⟩ | ⟨_, hx⟩
    · exact h.ov i e he hi
    · exact h.ov i x hx hi
  · rcases set_some hx with ⟨rfl, rfl⟩ | ⟨hi, hx⟩
    · rw [hP, if_pos rfl]
    · rw [hP, if_neg hi]; exact h.bz i x hx
theorem LS.free (h : LS n t vt b P L) {s : Nat} {e : Ent} (he : L[s]? = some e) (hs : s ≠ t) (hP : ∀ i, P' i = if i = s then false else P i) : LS n t vt (b + 1) P' (L.set s ⟨0, e.ver + 1, false⟩) := by
  refine ⟨by rw [List.length_set]; exact h.len, fun x hx => ?_, fun i x hx hi => ?_, fun i x hx => ?_⟩
  · rcases set_some hx with ⟨rfl, rfl⟩ | ⟨_, hx⟩
    · exact absurd rfl hs
    · exact h.tv x hx
  · rcases set_some hx with ⟨rfl, rfl⟩ | ⟨_, hx⟩
    · have := h.ov i e he hi; show e.ver + 1 ≤ b + 1; omega
    · have := h.ov i x hx hi; omega
  · rcases set_some hx with ⟨rfl, rfl⟩ | ⟨hi, hx⟩
    · rw [hP, if_pos rfl]
    · rw [hP, if_neg hi]; exact h.bz i x hx
theorem LS.free_t (h : LS n t vt b P L) {e : Ent} (he : L[t]? = some e) (hP : ∀ i, P' i = if i = t then false else P i) : LS n t (vt + 1) b P' (L.set t ⟨0, e.ver + 1, false⟩) := by
  refine ⟨by rw [List.length_set]; exact h.len, fun x hx => ?_, fun i x hx hi => ?_, fun i x hx => ?_⟩
  · rcases set_some hx with ⟨_, rfl⟩ | ⟨h1, _⟩
    · show e.ver + 1 = vt + 1; rw [h.tv e he]
    · exact absurd rfl h1
  · rcases set_some hx with ⟨rfl, rfl⟩ | ⟨_, hx⟩
    · exact absurd rfl hi
    · exact h.ov i x hx hi
  · rcases set_some hx with ⟨rfl, rfl⟩ | ⟨hi, hx⟩
    · rw [hP, if_pos rfl]
    · rw [hP, if_neg hi]; exact h.bz i x hx
theorem LS.start (n t v : Nat) : LS n t v 0 (fun _ => false) ((List.replicate n noEnt).set t ⟨0, v, false⟩) := by
  have hr : ∀ (i : Nat) (x : Ent), (List.replicate n noEnt)[i]? = some x → x = noEnt := by
    intro i x hx
    rw [List.getElem?_replicate] at hx
    split at hx
    · injection hx with hx; exact hx.symm
    · cases hx
  refine ⟨by simp, fun x hx => ?_, fun i x hx hi => ?_, fun i x hx => ?_⟩
  · rcases set_some hx with ⟨_, rfl⟩ | ⟨h1, _⟩
    · rfl
    · exact absurd rfl h1
  · rcases set_some hx with ⟨h1, rfl⟩ | ⟨_, hx⟩
    · exact absurd h1 hi
    · rw [hr i x hx]; exact Nat.le_refl _
  · rcases set_some hx with ⟨rfl, rfl⟩ | ⟨_, hx⟩
    · rfl
    · rw [hr i x hx]; rfl
end
theorem pickI_prefix (f : Ent → Bool) (m : Nat) : ∀ (l : List Ent) (s : Nat), m ≤ l.length → (∀ (i : Nat) (x : Ent), l[i]? = some x → f x = decide (i < m)) → pickI f s l = (List.range m).map (· + s) := by
  induction m with
  | zero =>
    intro l
    induction l with
    | nil => intros; rfl
    | cons x l ih =>
      intro s _ h
      have h0 := h 0 x rfl
      simp at h0
      simp only [pickI, h0]
      exact ih (s + 1) (by omega) (fun i y hy => by rw [h (i + 1) y (by simpa using hy)]; simp)
  | succ m ih =>
    intro l s hm h
    cases l with
    | nil => simp at hm
    | cons x l =>
      have h0 := h 0 x rfl
      simp at h0
      simp only [pickI, h0, if_true]
      rw [ih l (s + 1) (by simpa using hm) (fun i y hy => by rw [h (i + 1) y (by simpa using hy)]; simp)]
      rw [List.range_succ_eq_map, List.map_cons, List.map_map]
      congr 1
      · omega
      · apply List.map_congr_left
        intro a _
        simp; omega
theorem countP_but {α : Type} {p : α → Bool} {l : List α} {j : Nat} (hj : j < l.length) (h : ∀ (i : Nat) (x : α), l[i]? = some x → p x = decide (i ≠ j)) : l.countP p = l.length - 1 := by
  induction l generalizing j with
  | nil => simp at hj
  | cons x l ih =>
    cases j with
    | zero =>
      have h0 := h 0 x rfl
      simp at h0
      rw [List.countP_cons_of_neg (by simp [h0]), List.countP_eq_length.2 (fun y hy => by
        obtain ⟨i, hi, rfl⟩ := List.getElem_of_mem hy
        rw [h (i + 1) _ (by rw [List.getElem?_cons_succ]; exact List.getElem?_eq_getElem hi)]; simp)]
      simp
    | succ j =>
      have h0 := h 0 x rfl
      simp at h0
      have hj' : j < l.length := by simpa using hj
      rw [List.countP_cons_of_pos h0, ih hj' (fun i y hy => by rw [h (i + 1) y (by simpa using hy)]; simp)]
      simp; omega
end Go.Proofs.Ytbmblofhogihdaa
