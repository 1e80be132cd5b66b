/- A block stored in the middle of the sure ones. -/
import Derived.Test.YtfaingklglelnaaDskReW
namespace Go.Proofs.Ytfaingklglelnaa
open Go.RowKit

theorem setCells_list {α : Type} (v : α) (r cs : List α) (o : Nat) (h : o < cs.length) : (cs.set o v).take (o + 1) ++ r ++ (cs.set o v).drop (o + 1 + r.length) = cs.take o ++ (v :: r) ++ cs.drop (o + (v :: r).length) := by
  rw [List.drop_set_of_lt (by omega), List.length_cons, show o + (r.length + 1) = o + 1 + r.length by omega]
  congr 1
  rw [List.take_add_one, List.getElem?_set_self h, List.take_set_of_le (Nat.le_refl _)]
  simp
theorem Blk.sets {g : Nat} {t : TypeId} : ∀ (vs : List Value) (o : Nat) (w : World) (cs : Array Value), Blk w g t cs → o + vs.length ≤ cs.size → Blk (w.setCells g o vs) g t (cs.toList.take o ++ vs ++ cs.toList.drop (o + vs.length)).toArray
  | [], o, w, cs, h, _ => by simpa [World.setCells] using h
  | v :: r, o, w, cs, h, hl => by
    rw [World.setCells]
    have hl' : o + (r.length + 1) ≤ cs.size := hl
    have := Blk.sets r (o + 1) _ _ (h.set o v) (by simp; omega)
    rw [Array.toList_setIfInBounds, setCells_list v r cs.toList o (by simp; omega)] at this
    exact this
theorem Kp.sets {gs : List Nat} {a : World} {g : Nat} (hg : g ∈ gs) : ∀ (vs : List Value) (o : Nat) (w : World), Kp gs a w → Kp gs a (w.setCells g o vs)
  | [], _, _, h => by simpa [World.setCells] using h
  | v :: r, o, w, h => by
    rw [World.setCells]
    exact Kp.sets hg r (o + 1) _ (h.set (.inl hg) v)
theorem heap_sets {g g' : Nat} (hg : g' ≠ g) : ∀ (vs : List Value) (o : Nat) (w : World), (w.setCells g o vs).heap[g']? = w.heap[g']?
  | [], _, _ => by simp [World.setCells]
  | v :: r, o, w => by
    rw [World.setCells, heap_sets hg r (o + 1)]
    exact Below.heap_setCell w ⟨g, o, none⟩ v g' hg
theorem flat_put {α β : Type} {f : α → List β} {k : Nat} (xs : List α) (hk : ∀ x ∈ xs, (f x).length = k) (i : Nat) (hi : i < xs.length) (b : α) (hb : (f b).length = k) :
    (xs.flatMap f).take (i * k) ++ f b ++ (xs.flatMap f).drop (i * k + (f b).length) = (xs.set i b).flatMap f := by
  induction xs generalizing i with
  | nil => simp at hi
  | cons x xs ih =>
    have hx := hk x (by simp)
    cases i with
    | zero =>
      simp only [List.flatMap_cons, List.set_cons_zero, Nat.zero_mul, List.take_zero, List.nil_append, Nat.zero_add]
      rw [hb, ← hx, List.drop_left]
    | succ i =>
      have := ih (fun y hy => hk y (by simp [hy])) i (by simpa using hi)
      simp only [List.flatMap_cons, List.set_cons_succ]
      rw [show (i + 1) * k = (f x).length + i * k by rw [hx, Nat.succ_mul]; omega, List.take_length_add_append, Nat.add_assoc, List.drop_length_add_append, ← this]
      simp only [List.append_assoc]
theorem sureC_size (l : List (List UInt8)) (hl : ∀ x ∈ l, x.length = 64) : (sureC l).size = l.length * 64 := by
  have : ∀ l : List (List UInt8), (∀ x ∈ l, x.length = 64) → (l.flatMap blkC).length = l.length * 64 := by
    intro l
    induction l with
    | nil => intro _; rfl
    | cons x l ih =>
      intro h
      have hx := h x (by simp)
      have := ih (fun y hy => h y (by simp [hy]))
      simp only [List.flatMap_cons, List.length_append, blkC, u8s_length, hx, List.length_cons, Nat.succ_mul] at this ⊢
      omega
  simpa [sureC, fl] using this l hl
theorem sure_put {w : World} {s i : Nat} {t : TypeId} {l : List (List UInt8)} {pad : Array Value} (h : Blk w s t (sureC l ++ pad)) (hl : ∀ x ∈ l, x.length = 64) (hi : i < l.length) (b : List UInt8) (hb : b.length = 64) : Blk (w.setCells s (i * 64) (u8s b)) s t (sureC (l.set i b) ++ pad) := by
  have hsz := sureC_size l hl
  have hlen : (l.flatMap blkC).length = l.length * 64 := by simpa [sureC, fl] using hsz
  have := Blk.sets (u8s b) (i * 64) w _ h (by rw [u8s_length, hb, Array.size_append, hsz]; omega)
  have e := flat_put (f := blkC) (k := 64) l (fun x hx => by unfold blkC; rw [u8s_length]; exact hl x hx) i hi b (by unfold blkC; rw [u8s_length]; exact hb)
  have e2 : (sureC l ++ pad).toList = l.flatMap blkC ++ pad.toList := by simp [sureC, fl]
  rw [e2, List.take_append_of_le_length (by omega), List.drop_append_of_le_length (by rw [u8s_length, hb]; omega), ← List.append_assoc] at this
  have e3 : (l.set i b).flatMap blkC = (l.flatMap blkC).take (i * 64) ++ u8s b ++ (l.flatMap blkC).drop (i * 64 + (u8s b).length) := e.symm
  have e4 : sureC (l.set i b) ++ pad = ((l.set i b).flatMap blkC ++ pad.toList).toArray := by simp [sureC, fl]
  rw [e4, e3]
  exact this
end Go.Proofs.Ytfaingklglelnaa
