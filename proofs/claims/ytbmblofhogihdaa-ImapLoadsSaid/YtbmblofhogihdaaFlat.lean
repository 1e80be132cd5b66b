/- Rows of elements of several cells each: one list of values made of a list of things. No program in sight but the model's values. -/
import Derived.Test.YtbmblofhogihdaaBlk
import Derived.Test.YtbmblofhogihdaaOwn
namespace Go.Proofs.Ytbmblofhogihdaa
open Go.RowKit

section
variable {α β : Type} {f : α → List β} {k : Nat}
theorem flat_len (hk : ∀ x, (f x).length = k) (xs : List α) : (xs.flatMap f).length = xs.length * k := by
  induction xs with
  | nil => simp
  | cons x xs ih => simp only [List.flatMap_cons, List.length_append, ih, hk, List.length_cons, Nat.succ_mul]; omega
theorem flat_get (hk : ∀ x, (f x).length = k) (xs : List α) (i j : Nat) (hj : j < k) : (xs.flatMap f)[i * k + j]? = xs[i]?.bind fun x => (f x)[j]? := by
  induction xs generalizing i with
  | nil => simp
  | cons x xs ih =>
    rw [List.flatMap_cons]
    cases i with
    | zero => rw [List.getElem?_append_left (by rw [hk]; omega)]; simp
    | succ i =>
      rw [List.getElem?_append_right (by rw [hk, Nat.succ_mul]; omega), hk, show (i + 1) * k + j - k = i * k + j by rw [Nat.succ_mul]; omega, ih]
      simp
theorem flat_set (hk : ∀ x, (f x).length = k) (xs : List α) (i j : Nat) (hj : j < k) (v : β) (x' : α) (hx : ∀ x, xs[i]? = some x → f x' = (f x).set j v) : (xs.flatMap f).set (i * k + j) v = (xs.set i x').flatMap f := by
  induction xs generalizing i with
  | nil => simp
  | cons x xs ih =>
    cases i with
    | zero =>
      have := hx x rfl
      simp only [List.flatMap_cons, List.set_cons_zero, Nat.zero_mul, Nat.zero_add, this]
      rw [List.set_append_left _ _ (by rw [hk]; exact hj)]
    | succ i =>
      simp only [List.flatMap_cons, List.set_cons_succ]
      rw [List.set_append_right _ _ (by rw [hk, Nat.succ_mul]; omega), hk, show (i + 1) * k + j - k = i * k + j by rw [Nat.succ_mul]; omega, ih i (fun y hy => hx y (by simpa using hy))]
end
/-- The cells of a row of things. -/
def fl {α : Type} (f : α → List Value) (xs : List α) : Array Value := (xs.flatMap f).toArray
theorem fl_get {α : Type} {f : α → List Value} {k : Nat} (hk : ∀ x, (f x).length = k) (xs : List α) (i j : Nat) (hj : j < k) : (fl f xs)[i * k + j]? = xs[i]?.bind fun x => (f x)[j]? := by
  have := flat_get hk xs i j hj
  simpa [fl] using this
theorem fl_set {α : Type} {f : α → List Value} {k : Nat} (hk : ∀ x, (f x).length = k) (xs : List α) (i j : Nat) (hj : j < k) (v : Value) (x' : α) (hx : ∀ x, xs[i]? = some x → f x' = (f x).set j v) :
    (fl f xs).setIfInBounds (i * k + j) v = fl f (xs.set i x') := by
  have := flat_set hk xs i j hj v x' hx
  simp [fl, this]
theorem fl_size {α : Type} {f : α → List Value} {k : Nat} (hk : ∀ x, (f x).length = k) (xs : List α) : (fl f xs).size = xs.length * k := by
  have := flat_len hk xs
  simpa [fl] using this
theorem made_fl {α : Type} {f : α → List Value} {k : Nat} (hk : ∀ x, (f x).length = k) (hp : 0 < k) (x : α) (n : Nat) {z : Array Value} (hz : z = (f x).toArray) : madeCells z (n * k) = fl f (List.replicate n x) := by
  subst hz
  apply Array.ext
  · rw [fl_size hk]; simp [madeCells]
  · intro i h1 h2
    have e : i = i / k * k + i % k := by rw [Nat.mul_comm]; exact (Nat.div_add_mod i k).symm
    have hm : i % k < k := Nat.mod_lt _ hp
    have hi : i < n * k := by simpa [madeCells] using h1
    have hd : i / k < n := Nat.div_lt_of_lt_mul (by rwa [Nat.mul_comm])
    have h3 : (fl f (List.replicate n x))[i]? = (f x)[i % k]? := by
      have := fl_get hk (List.replicate n x) (i / k) (i % k) hm
      rw [List.getElem?_replicate, if_pos hd, ← e] at this
      simpa using this
    have h4 : (madeCells (f x).toArray (n * k))[i]? = (f x)[i % k]? := by
      have hl : i % k < (f x).length := by rw [hk]; exact hm
      simp [madeCells, hi, hk, List.getElem?_eq_getElem hl]
    rw [Array.getElem?_eq_getElem h1] at h4
    rw [Array.getElem?_eq_getElem h2] at h3
    rw [← h3] at h4
    exact Option.some.inj h4

/-- The same, where only this one thing is known to be of k cells. -/
theorem made_fl1 {α : Type} {f : α → List Value} {k : Nat} (hp : 0 < k) (x : α) (hk : (f x).length = k) (n : Nat) {z : Array Value} (hz : z = (f x).toArray) : madeCells z (n * k) = fl f (List.replicate n x) := by
  have h := made_fl (f := fun _ : Unit => f x) (fun _ => hk) hp () n hz
  rw [h]
  unfold fl
  congr 1
  induction n with
  | zero => rfl
  | succ n ih => rw [List.replicate_succ, List.replicate_succ, List.flatMap_cons, List.flatMap_cons, ih (made_fl (f := fun _ : Unit => f x) (fun _ => hk) hp () n hz)]

/-- make of so many elements, of any size. -/
theorem run_mks {P : Program} {t e : TypeId} {z : Value} {k bytes : Nat} (ht : P.underlying t = some (.slice e))
    (he : (P.info? e).map (fun i => (i.zero, i.size, i.bytes)) = some (some z, k, bytes)) (kl kc : IntKind) (n : Nat) (hb : n * bytes ≤ 140737488355328) (hn : n ≤ 140737488355328) (w : World) :
    (Instr.makeSlice t (.int kl (n : Int)) (.int kc (n : Int))).run P w = .ok (.slice (some ⟨w.heap.size, 0, none⟩) n n) (w.alloc (.cells (madeCells z.cells (n * k)) e)) := by
  obtain ⟨i, hi, hz, hs, hby⟩ := info_parts he
  have hbI : (i.bytes : Int) * (n : Int) ≤ 281474976710656 := by
    rw [hby, ← Int.natCast_mul, Nat.mul_comm]; omega
  have hr := run_make (P := P) w t e i z ht hi hz kl kc n n (by omega) (by omega) hbI (by omega)
  simp only [Int.toNat_natCast, hs] at hr
  exact hr
end Go.Proofs.Ytbmblofhogihdaa
