/- Slices that came in: of one cell each, and of several. -/
import Derived.Test.YtopjkpopdffkeaaDoorRd
set_option linter.unusedVariables false
set_option linter.unusedSimpArgs false
namespace Go.Proofs.YtopjkpopdffkeaaDoor
open Go.RowKit Go.WideShapes

/-- A slice of elements of one cell each. -/
theorem sl_of_rd {P : Program} {w : World} {n : Nat} {t e : TypeId} {v : Value} {Q : Value → Prop} (ht : P.underlying t = some (.slice e)) (hc : P.cellsOf e = 1) (hQ : ∀ cs, Rd P w n e cs → ∃ u, cs = [u] ∧ Q u) (h : Rd P w (n + 1) t [v]) :
    ∃ A len cap xs, v = .slice A len cap ∧ len ≤ cap ∧ cap ≤ 9223372036854775807 ∧ Sl w w.heap.size A len xs ∧ ∀ x ∈ xs, Q x := by
  rcases rd_slice ht h with h | ⟨a, len, cap, h, hl, hm, hi⟩
  · simp only [List.cons.injEq, and_true] at h
    exact ⟨none, 0, 0, [], h, Nat.le_refl _, by omega, Sl.nil_, by simp⟩
  · simp only [List.cons.injEq, and_true] at h
    rw [hc] at hi
    obtain ⟨rs, hrl, hr⟩ := list_of (Q := fun i (u : Value) => w.cell? (a.add i) = some u ∧ Q u) len (fun i hil => by
      obtain ⟨cs', hcl, hat, hrd⟩ := hi i hil
      obtain ⟨u, rfl, hq⟩ := hQ cs' hrd
      have := hat 0 (by omega)
      exact ⟨u, by simpa using this, hq⟩)
    refine ⟨some a, len, cap, rs, h, hl, by simpa [maxLen] using hm, ⟨hrl, fun j u hu => ?_⟩, fun x hx => ?_⟩
    · obtain ⟨hj, rfl⟩ := List.getElem?_eq_some_iff.1 hu
      exact ⟨a, rfl, by have := cell_lt (hr j hj).1; rwa [addr_block] at this, (hr j hj).1⟩
    · obtain ⟨j, hj, rfl⟩ := List.getElem_of_mem hx
      exact (hr j hj).2
theorem ints_of_rd {P : Program} {w : World} {n : Nat} {t e : TypeId} {k : IntKind} {v : Value} (ht : P.underlying t = some (.slice e)) (he : P.underlying e = some (.int k)) (hc : P.cellsOf e = 1) (h : Rd P w (n + 2) t [v]) :
    ∃ (A : Option Addr) (len cap : Nat) (l : List Int), v = .slice A len cap ∧ len ≤ cap ∧ cap ≤ 9223372036854775807 ∧ Sl w w.heap.size A len (l.map (Value.int k)) ∧ ∀ x ∈ l, (Lit.int k x).wf = true := by
  obtain ⟨A, len, cap, xs, h1, h2, h3, h4, h5⟩ := sl_of_rd (Q := fun u => ∃ m, u = .int k m ∧ (Lit.int k m).wf = true) ht hc (fun cs h => by
    obtain ⟨m, rfl, hw⟩ := rd_int he h
    exact ⟨_, rfl, m, rfl, hw⟩) h
  obtain ⟨l, hl⟩ : ∃ l : List Int, xs = l.map (Value.int k) ∧ ∀ x ∈ l, (Lit.int k x).wf = true := by
    clear h4
    induction xs with
    | nil => exact ⟨[], rfl, by simp⟩
    | cons x xs ih =>
      obtain ⟨m, rfl, hm⟩ := h5 x (by simp)
      obtain ⟨l, rfl, hw⟩ := ih (fun y hy => h5 y (by simp [hy]))
      exact ⟨m :: l, rfl, by simpa [hm] using hw⟩
  obtain ⟨rfl, hw⟩ := hl
  exact ⟨A, len, cap, l, h1, h2, h3, h4, hw⟩
theorem bools_of_rd {P : Program} {w : World} {n : Nat} {t e : TypeId} {v : Value} (ht : P.underlying t = some (.slice e)) (he : P.underlying e = some .bool) (hc : P.cellsOf e = 1) (h : Rd P w (n + 2) t [v]) :
    ∃ (A : Option Addr) (len cap : Nat) (l : List Bool), v = .slice A len cap ∧ len ≤ cap ∧ cap ≤ 9223372036854775807 ∧ Sl w w.heap.size A len (l.map Value.bool) := by
  obtain ⟨A, len, cap, xs, h1, h2, h3, h4, h5⟩ := sl_of_rd (Q := fun u => ∃ b, u = .bool b) ht hc (fun cs h => by
    obtain ⟨b, rfl⟩ := rd_bool he h
    exact ⟨_, rfl, b, rfl⟩) h
  obtain ⟨l, rfl⟩ : ∃ l : List Bool, xs = l.map Value.bool := by
    clear h4
    induction xs with
    | nil => exact ⟨[], rfl⟩
    | cons x xs ih =>
      obtain ⟨b, rfl⟩ := h5 x (by simp)
      obtain ⟨l, rfl⟩ := ih (fun y hy => h5 y (by simp [hy]))
      exact ⟨b :: l, rfl⟩
  exact ⟨A, len, cap, l, h1, h2, h3, h4⟩
/-- A slice of elements of k cells each, row by row. -/
structure SlK (w : World) (A : Option Addr) (k n : Nat) (rows : List (List Value)) : Prop where
  len : rows.length = n
  row : ∀ i (hi : i < rows.length), rows[i].length = k
  cells : ∀ i j u, i < rows.length → (rows[i]?.bind (·[j]?)) = some u → ∃ a, A = some a ∧ w.cell? (a.add (i * k + j)) = some u
theorem slk_of_rd {P : Program} {w : World} {n k : Nat} {t e : TypeId} {v : Value} (ht : P.underlying t = some (.slice e)) (hc : P.cellsOf e = k) (h : Rd P w (n + 1) t [v]) :
    ∃ A len cap rows, v = .slice A len cap ∧ len ≤ cap ∧ cap ≤ 9223372036854775807 ∧ SlK w A k len rows ∧ ∀ r ∈ rows, Rd P w n e r := by
  rcases rd_slice ht h with h | ⟨a, len, cap, h, hl, hm, hi⟩
  · simp only [List.cons.injEq, and_true] at h
    exact ⟨none, 0, 0, [], h, Nat.le_refl _, by omega, ⟨rfl, by simp, by simp⟩, by simp⟩
  · simp only [List.cons.injEq, and_true] at h
    rw [hc] at hi
    obtain ⟨rs, hrl, hr⟩ := list_of (Q := fun i (cs' : List Value) => cs'.length = k ∧ (∀ j, j < k → w.cell? (a.add (i * k + j)) = cs'[j]?) ∧ Rd P w n e cs') len hi
    refine ⟨some a, len, cap, rs, h, hl, by simpa [maxLen] using hm, ⟨hrl, fun i hi => (hr i hi).1, fun i j u hi hu => ?_⟩, fun x hx => ?_⟩
    · rw [List.getElem?_eq_getElem hi, Option.bind_some] at hu
      have hj : j < k := by have := (List.getElem?_eq_some_iff.1 hu).1; rwa [(hr i hi).1] at this
      exact ⟨a, rfl, by rw [(hr i hi).2.1 j hj, hu]⟩
    · obtain ⟨j, hj, rfl⟩ := List.getElem_of_mem hx
      exact (hr j hj).2.2
theorem SlK.keep {w w' : World} {A : Option Addr} {k n : Nat} {rows : List (List Value)} (h : SlK w A k n rows) (hb : Below w.heap.size w w') : SlK w' A k n rows :=
  ⟨h.len, h.row, fun i j u hi hu => by
    obtain ⟨a, e, hc⟩ := h.cells i j u hi hu
    exact ⟨a, e, (hb.cell (cell_lt hc)).trans hc⟩⟩
theorem SlK.at {w : World} {A : Option Addr} {k n : Nat} {rows : List (List Value)} (h : SlK w A k n rows) (hn : 0 < n) (hk : 0 < k) :
    ∃ b off, A = some ⟨b, off, none⟩ ∧ b < w.heap.size ∧ ∀ i (hi : i < rows.length) j u, (rows[i])[j]? = some u → w.cell? ⟨b, off + i * k + j, none⟩ = some u := by
  have h0 : 0 < rows.length := by rw [h.len]; exact hn
  have hr := h.row 0 h0
  obtain ⟨⟨b, off, spot⟩, rfl, hc⟩ := h.cells 0 0 (rows[0][0]'(by omega)) h0 (by rw [List.getElem?_eq_getElem h0, Option.bind_some, List.getElem?_eq_getElem])
  have hsp : spot = none := by
    have := World.cell?_spot hc
    simpa [Addr.add] using this
  subst hsp
  refine ⟨b, off, rfl, by have := cell_lt hc; rwa [addr_block] at this, fun i hi j u hu => ?_⟩
  obtain ⟨_, e, hc'⟩ := h.cells i j u hi (by rw [List.getElem?_eq_getElem hi]; exact hu)
  cases e
  rw [show (Addr.mk b off none).add (i * k + j) = ⟨b, off + i * k + j, none⟩ by unfold Addr.add; split <;> simp_all [Nat.add_assoc]] at hc'
  exact hc'
theorem int_arg {P : Program} {w : World} {t : TypeId} {v : Value} (ht : P.underlying t = some (.int .i64)) (h : Arg P w t v) : ∃ n, v = .int .i64 n ∧ -9223372036854775808 ≤ n ∧ n ≤ 9223372036854775807 := by
  obtain ⟨n, hn, hw⟩ := rd_int ht (arg_one h ht (fun _ => by simp) (fun _ _ => by simp))
  simp at hn
  have := wf_bd_i64 hw
  exact ⟨n, hn, this.1, this.2⟩
end Go.Proofs.YtopjkpopdffkeaaDoor
