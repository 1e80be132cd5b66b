import Derived.Test.YtbamdibpkkponaaDoorJb01
import Derived.Deep.DeepCutAuto
import Derived.Deep.QuietTactic
import Derived.BigQuiet
import Derived.Deep.DrawnRows
import Derived.Test.YtbamdibpkkponaaDoorRows
import Derived.Deep.DeepHandedRow
import Derived.Lib.LaidTab
set_option linter.unusedVariables false
set_option linter.unusedSimpArgs false
/- Slices that came in: of one cell each, and of several. -/
namespace Go.Proofs.YtbamdibpkkponaaDoor
open Go.RowKit Go.WideShapes

/-- A slice of elements of one cell each. -/
theorem sl_of_rd {P : Program} {w : World} {n : Nat} {t e : TypeId} {v : Value} {Q : Value → Prop} (ht : P.underlying t = some (.slice e)) (hc : P.cellsOf e = 1) (hQ : ∀ cs, Rd P w n e cs → ∃ u, cs = [u] ∧ Q u) (h : Rd P w (n + 1) t [v]) :
    ∃ A len cap xs, v = .slice A len cap ∧ len ≤ cap ∧ cap ≤ 9223372036854775807 ∧ Sl w w.heap.size A len xs ∧ ∀ x ∈ xs, Q x := by
  rcases rd_slice ht h with h | ⟨a, len, cap, h, hl, hm, hi⟩
  · simp only [List.cons.injEq, and_true] at h
    exact ⟨none, 0, 0, [], h, Nat.le_refl _, by omega, Sl.nil_, by simp⟩
  · simp only [List.cons.injEq, and_true] at h
    rw [hc] at hi
    obtain ⟨rs, hrl, hr⟩ := list_of (Q := fun i (u : Value) => w.cell? (a.add i) = some u ∧ Q u) len (fun i hil => by
      obtain ⟨cs', hcl, hat, hrd⟩ := hi i hil
      obtain ⟨u, rfl, hq⟩ := hQ cs' hrd
      have := hat 0 (by omega)
      exact ⟨u, by simpa using this, hq⟩)
    refine ⟨some a, len, cap, rs, h, hl, by simpa [maxLen] using hm, ⟨hrl, fun j u hu => ?_⟩, fun x hx => ?_⟩
    · obtain ⟨hj, rfl⟩ := List.getElem?_eq_some_iff.1 hu
      exact ⟨a, rfl, by have := cell_lt (hr j hj).1; rwa [addr_block] at this, (hr j hj).1⟩
    · obtain ⟨j, hj, rfl⟩ := List.getElem_of_mem hx
      exact (hr j hj).2
theorem ints_of_rd {P : Program} {w : World} {n : Nat} {t e : TypeId} {k : IntKind} {v : Value} (ht : P.underlying t = some (.slice e)) (he : P.underlying e = some (.int k)) (hc : P.cellsOf e = 1) (h : Rd P w (n + 2) t [v]) :
    ∃ (A : Option Addr) (len cap : Nat) (l : List Int), v = .slice A len cap ∧ len ≤ cap ∧ cap ≤ 9223372036854775807 ∧ Sl w w.heap.size A len (l.map (Value.int k)) ∧ ∀ x ∈ l, (Lit.int k x).wf = true := by
  obtain ⟨A, len, cap, xs, h1, h2, h3, h4, h5⟩ := sl_of_rd (Q := fun u => ∃ m, u = .int k m ∧ (Lit.int k m).wf = true) ht hc (fun cs h => by
    obtain ⟨m, rfl, hw⟩ := rd_int he h
    exact ⟨_, rfl, m, rfl, hw⟩) h
  obtain ⟨l, hl⟩ : ∃ l : List Int, xs = l.map (Value.int k) ∧ ∀ x ∈ l, (Lit.int k x).wf = true := by
    clear h4
    induction xs with
    | nil => exact ⟨[], rfl, by simp⟩
    | cons x xs ih =>
      obtain ⟨m, rfl, hm⟩ := h5 x (by simp)
      obtain ⟨l, rfl, hw⟩ := ih (fun y hy => h5 y (by simp [hy]))
      exact ⟨m :: l, rfl, by simpa [hm] using hw⟩
  obtain ⟨rfl, hw⟩ := hl
  exact ⟨A, len, cap, l, h1, h2, h3, h4, hw⟩
theorem bools_of_rd {P : Program} {w : World} {n : Nat} {t e : TypeId} {v : Value} (ht : P.underlying t = some (.slice e)) (he : P.underlying e = some .bool) (hc : P.cellsOf e = 1) (h : Rd P w (n + 2) t [v]) :
    ∃ (A : Option Addr) (len cap : Nat) (l : List Bool), v = .slice A len cap ∧ len ≤ cap ∧ cap ≤ 9223372036854775807 ∧ Sl w w.heap.size A len (l.map Value.bool) := by
  obtain ⟨A, len, cap, xs, h1, h2, h3, h4, h5⟩ := sl_of_rd (Q := fun u => ∃ b, u = .bool b) ht hc (fun cs h => by
    obtain ⟨b, rfl⟩ := rd_bool he h
    exact ⟨_, rfl, b, rfl⟩) h
  obtain ⟨l, rfl⟩ : ∃ l : List Bool, xs = l.map Value.bool := by
    clear h4
    induction xs with
    | nil => exact ⟨[], rfl⟩
    | cons x xs ih =>
      obtain ⟨b, rfl⟩ := h5 x (by simp)
      obtain ⟨l, rfl⟩ := ih (fun y hy => h5 y (by simp [hy]))
      exact ⟨b :: l, rfl⟩
  exact ⟨A, len, cap, l, h1, h2, h3, h4⟩
/-- A slice of elements of k cells each, row by row. -/
structure SlK (w : World) (A : Option Addr) (k n : Nat) (rows : List (List Value)) : Prop where
  len : rows.length = n
  row : ∀ i (hi : i < rows.length), rows[i].length = k
  cells : ∀ i j u, i < rows.length → (rows[i]?.bind (·[j]?)) = some u → ∃ a, A = some a ∧ w.cell? (a.add (i * k + j)) = some u
theorem slk_of_rd {P : Program} {w : World} {n k : Nat} {t e : TypeId} {v : Value} (ht : P.underlying t = some (.slice e)) (hc : P.cellsOf e = k) (h : Rd P w (n + 1) t [v]) :
    ∃ A len cap rows, v = .slice A len cap ∧ len ≤ cap ∧ cap ≤ 9223372036854775807 ∧ SlK w A k len rows ∧ ∀ r ∈ rows, Rd P w n e r := by
  rcases rd_slice ht h with h | ⟨a, len, cap, h, hl, hm, hi⟩
  · simp only [List.cons.injEq, and_true] at h
    exact ⟨none, 0, 0, [], h, Nat.le_refl _, by omega, ⟨rfl, by simp, by simp⟩, by simp⟩
  · simp only [List.cons.injEq, and_true] at h
    rw [hc] at hi
    obtain ⟨rs, hrl, hr⟩ := list_of (Q := fun i (cs' : List Value) => cs'.length = k ∧ (∀ j, j < k → w.cell? (a.add (i * k + j)) = cs'[j]?) ∧ Rd P w n e cs') len hi
    refine ⟨some a, len, cap, rs, h, hl, by simpa [maxLen] using hm, ⟨hrl, fun i hi => (hr i hi).1, fun i j u hi hu => ?_⟩, fun x hx => ?_⟩
    · rw [List.getElem?_eq_getElem hi, Option.bind_some] at hu
      have hj : j < k := by have := (List.getElem?_eq_some_iff.1 hu).1; rwa [(hr i hi).1] at this
      exact ⟨a, rfl, by rw [(hr i hi).2.1 j hj, hu]⟩
    · obtain ⟨j, hj, rfl⟩ := List.getElem_of_mem hx
      exact (hr j hj).2.2
theorem SlK.keep {w w' : World} {A : Option Addr} {k n : Nat} {rows : List (List Value)} (h : SlK w A k n rows) (hb : Below w.heap.size w w') : SlK w' A k n rows :=
  ⟨h.len, h.row, fun i j u hi hu => by
    obtain ⟨a, e, hc⟩ := h.cells i j u hi hu
    exact ⟨a, e, (hb.cell (cell_lt hc)).trans hc⟩⟩
theorem SlK.at {w : World} {A : Option Addr} {k n : Nat} {rows : List (List Value)} (h : SlK w A k n rows) (hn : 0 < n) (hk : 0 < k) :
    ∃ b off, A = some ⟨b, off, none⟩ ∧ b < w.heap.size ∧ ∀ i (hi : i < rows.length) j u, (rows[i])[j]? = some u → w.cell? ⟨b, off + i * k + j, none⟩ = some u := by
  have h0 : 0 < rows.length := by rw [h.len]; exact hn
  have hr := h.row 0 h0
  obtain ⟨⟨b, off, spot⟩, rfl, hc⟩ := h.cells 0 0 (rows[0][0]'(by omega)) h0 (by rw [List.getElem?_eq_getElem h0, Option.bind_some, List.getElem?_eq_getElem])
  have hsp : spot = none := by
    have := World.cell?_spot hc
    simpa [Addr.add] using this
  subst hsp
  refine ⟨b, off, rfl, by have := cell_lt hc; rwa [addr_block] at this, fun i hi j u hu => ?_⟩
  obtain ⟨_, e, hc'⟩ := h.cells i j u hi (by rw [List.getElem?_eq_getElem hi]; exact hu)
  cases e
  rw [show (Addr.mk b off none).add (i * k + j) = ⟨b, off + i * k + j, none⟩ by unfold Addr.add; split <;> simp_all [Nat.add_assoc]] at hc'
  exact hc'
theorem int_arg {P : Program} {w : World} {t : TypeId} {v : Value} (ht : P.underlying t = some (.int .i64)) (h : Arg P w t v) : ∃ n, v = .int .i64 n ∧ -9223372036854775808 ≤ n ∧ n ≤ 9223372036854775807 := by
  obtain ⟨n, hn, hw⟩ := rd_int ht (arg_one h ht (fun _ => by simp) (fun _ _ => by simp))
  simp at hn
  have := wf_bd_i64 hw
  exact ⟨n, hn, this.1, this.2⟩
end Go.Proofs.YtbamdibpkkponaaDoor

/- Rows in memory that nobody writes: a reading that outlives writes into blocks of some types. -/
namespace Go.Proofs.YtbamdibpkkponaaDoor
open Go.RowKit

/-- All blocks but those at base and above of these types are as they were. -/
structure Kt (T : List TypeId) (base : Nat) (w w' : World) : Prop where
  os : w'.os = w.os
  tape : w'.tape = w.tape
  output : w'.output = w.output
  size : w.heap.size ≤ w'.heap.size
  block : ∀ k, k < w.heap.size → (k < base ∨ ∃ t cs, Blk w k t cs ∧ t ∉ T) → w'.heap[k]? = w.heap[k]?
section
variable {T : List TypeId} {base lo : Nat} {w w' w2 : World}
theorem Kt.refl (T : List TypeId) (base : Nat) (w : World) : Kt T base w w := ⟨rfl, rfl, rfl, Nat.le_refl _, fun _ _ _ => rfl⟩
theorem Kt.trans (h : Kt T base w w') (k : Kt T base w' w2) : Kt T base w w2 :=
  ⟨k.os.trans h.os, k.tape.trans h.tape, k.output.trans h.output, Nat.le_trans h.size k.size, fun i hi hn => by
    have h1 := h.block i hi hn
    refine (k.block i (Nat.lt_of_lt_of_le hi h.size) ?_).trans h1
    rcases hn with hn | ⟨t, cs, hb, ht⟩
    · exact .inl hn
    · exact .inr ⟨t, cs, h1.trans hb, ht⟩⟩
theorem Kt.of_below (h : Below w.heap.size w w') : Kt T base w w' := ⟨h.os, h.tape, h.output, h.size, fun i hi _ => h.block i hi⟩
theorem Kt.drew (h : Kt T base w w') : Kt T base w w'.drew := ⟨h.os, h.tape, h.output, h.size, h.block⟩
theorem Kt.drewN (h : Kt T base w w') (n : Nat) : Kt T base w (w'.drewN n) := ⟨h.os, h.tape, h.output, h.size, h.block⟩
theorem Kt.alloc (h : Kt T base w w') (o : Obj) : Kt T base w (w'.alloc o) :=
  ⟨h.os, h.tape, h.output, Nat.le_trans h.size (by simp), fun i hi hn => (Below.heap_alloc w' o i (Nat.lt_of_lt_of_le hi h.size)).trans (h.block i hi hn)⟩
theorem Kt.set (h : Kt T base w w') {p : Addr} (hp : (base ≤ p.block ∧ ∀ t cs, Blk w p.block t cs → t ∈ T) ∨ w.heap.size ≤ p.block) (u : Value) : Kt T base w (w'.setCell p u) :=
  ⟨h.os, h.tape, h.output, by simpa [World.setCell] using h.size, fun i hi hn => (Below.heap_setCell w' p u i (by
    rintro rfl
    rcases hp with ⟨hp, ht⟩ | hp
    · rcases hn with hn | ⟨t, cs, hb, hnt⟩
      · omega
      · exact hnt (ht t cs hb)
    · omega)).trans (h.block i hi hn)⟩
theorem Kt.below (h : Kt T base w w') (hB : base ≤ w.heap.size) : Below base w w' :=
  ⟨h.os, h.tape, h.output, h.size, fun k hk => h.block k (Nat.lt_of_lt_of_le hk hB) (.inl hk)⟩
theorem Kt.gr {r : Option Nat} (h : w.grownBy w' r) (hr : ∀ g, r = some g → base ≤ g ∧ ∃ t cs, Blk w g t cs ∧ t ∈ T) : Kt T base w w' :=
  ⟨h.os, h.tape, h.output, h.size, fun k hk hn => h.block k hk (fun e => by
    obtain ⟨hb, t, cs, hB, ht⟩ := hr k e.symm
    rcases hn with hn | ⟨t', cs', hB', ht'⟩
    · omega
    · have h5 : some (Obj.cells cs t) = some (Obj.cells cs' t') := hB.symm.trans hB'
      simp at h5
      exact ht' (h5.2 ▸ ht))⟩
theorem Blk.type {g : Nat} {t t' : TypeId} {cs cs' : Array Value} (h : Blk w g t cs) (h' : Blk w g t' cs') : t = t' ∧ cs = cs' := by
  have h5 : some (Obj.cells cs t) = some (Obj.cells cs' t') := h.symm.trans h'
  simp at h5
  exact ⟨h5.2, h5.1⟩
theorem Blk.kt {g : Nat} {t : TypeId} {cs : Array Value} (h : Blk w g t cs) (hk : Kt T base w w') (ht : t ∉ T) : Blk w' g t cs := (hk.block g h.lt (.inr ⟨t, cs, h, ht⟩)).trans h

/-- A block that stays: from lo on; below base, or of this type. -/
def Fr (lo base : Nat) (t : TypeId) (w : World) (b : Nat) : Prop := lo ≤ b ∧ b < w.heap.size ∧ (b < base ∨ ∃ cs, Blk w b t cs)
theorem Fr.kt {t : TypeId} {b : Nat} (h : Fr lo base t w b) (hk : Kt T base w w') (ht : t ∉ T) : Fr lo base t w' b ∧ w'.heap[b]? = w.heap[b]? := by
  obtain ⟨h0, h1, h2⟩ := h
  have e : w'.heap[b]? = w.heap[b]? := hk.block b h1 (by
    rcases h2 with h2 | ⟨cs, h2⟩
    · exact .inl h2
    · exact .inr ⟨t, cs, h2, ht⟩)
  refine ⟨⟨h0, Nat.lt_of_lt_of_le h1 hk.size, ?_⟩, e⟩
  rcases h2 with h2 | ⟨cs, h2⟩
  · exact .inl h2
  · exact .inr ⟨cs, e.trans h2⟩
/-- What a slice of elements of k cells holds, all cells one behind the other. -/
structure RwAt (lo base : Nat) (t : TypeId) (k : Nat) (w : World) (A : Option Addr) (n : Nat) (xs : List Value) : Prop where
  len : xs.length = n * k
  cells : ∀ (j : Nat) (u : Value), xs[j]? = some u → ∃ b off, A = some ⟨b, off, none⟩ ∧ Fr lo base t w b ∧ w.cell? ⟨b, off + j, none⟩ = some u
theorem cell_same {b off : Nat} (e : w'.heap[b]? = w.heap[b]?) : w'.cell? ⟨b, off, none⟩ = w.cell? ⟨b, off, none⟩ := by
  simp only [World.cell?, e]
variable {t : TypeId} {k n : Nat} {A : Option Addr} {xs : List Value}
theorem RwAt.kt (h : RwAt lo base t k w A n xs) (hk : Kt T base w w') (ht : t ∉ T) : RwAt lo base t k w' A n xs :=
  ⟨h.len, fun j u hu => by
    obtain ⟨b, off, e, hf, hc⟩ := h.cells j u hu
    obtain ⟨hf', e2⟩ := hf.kt hk ht
    exact ⟨b, off, e, hf', (cell_same e2).trans hc⟩⟩
theorem RwAt.below (h : RwAt lo base t k w A n xs) (hb : Below w.heap.size w w') : RwAt lo base t k w' A n xs := h.kt (T := []) (Kt.of_below hb) (by simp)
theorem RwAt.base_ {base' : Nat} (h : RwAt lo base t k w A n xs) (hb : base ≤ base') : RwAt lo base' t k w A n xs :=
  ⟨h.len, fun j u hu => by
    obtain ⟨b, off, e, ⟨h0, h1, h2⟩, hc⟩ := h.cells j u hu
    refine ⟨b, off, e, ⟨h0, h1, ?_⟩, hc⟩
    rcases h2 with h2 | h2
    · exact .inl (by omega)
    · exact .inr h2⟩
theorem RwAt.lo_ {lo' : Nat} (h : RwAt lo base t k w A n xs) (hb : lo' ≤ lo) : RwAt lo' base t k w A n xs :=
  ⟨h.len, fun j u hu => by
    obtain ⟨b, off, e, ⟨h0, h1, h2⟩, hc⟩ := h.cells j u hu
    exact ⟨b, off, e, ⟨Nat.le_trans hb h0, h1, h2⟩, hc⟩⟩
theorem RwAt.nil : RwAt lo base t k w A 0 [] := ⟨by simp, by simp⟩
theorem RwAt.of_own {c : Nat} (h : w.ownsRow lo t k (.slice A n c) n xs) : RwAt lo base t k w A n xs := by
  refine ⟨h.1, fun j u hu => ?_⟩
  rcases h.2 with ⟨h1, h2⟩ | ⟨g, cap, cur, h1, h2, hg, hnc, hcm, hcs, ht⟩
  · have := h.1
    subst h2
    have : xs = [] := List.eq_nil_of_length_eq_zero (by omega)
    subst this
    simp at hu
  · injection h1 with h1 _ _
    subst h1
    refine ⟨g, 0, rfl, ⟨h2, (h.lt g rfl).2, .inr ⟨cur, hg⟩⟩, ?_⟩
    have := h.cells (g := g) rfl j u hu
    rw [Addr.add_mid, Nat.zero_add] at this
    rwa [Nat.zero_add]
theorem RwAt.slc (h : RwAt lo base t k w A n xs) : SlC w w.heap.size A n k xs :=
  ⟨h.len, fun j u hu => by
    obtain ⟨b, off, e, hf, hc⟩ := h.cells j u hu
    exact ⟨_, e, hf.2.1, by rw [Addr.add_mid]; exact hc⟩⟩
theorem RwAt.sl (h : RwAt lo base t 1 w A n xs) : Sl w w.heap.size A n xs :=
  ⟨by have := h.len; omega, fun j u hu => by
    obtain ⟨b, off, e, hf, hc⟩ := h.cells j u hu
    exact ⟨_, e, hf.2.1, by rw [Addr.add_mid]; exact hc⟩⟩
/-- Where its elements lie. -/
theorem RwAt.at (h : RwAt lo base t k w A n xs) (hn : 0 < n) (hk : 0 < k) : ∃ b off, A = some ⟨b, off, none⟩ ∧ Fr lo base t w b ∧ ∀ j u, xs[j]? = some u → w.cell? ⟨b, off + j, none⟩ = some u := by
  have hp := Nat.mul_pos hn hk
  have hl := h.len
  obtain ⟨b, off, e, hf, -⟩ := h.cells 0 _ (List.getElem?_eq_getElem (by omega))
  refine ⟨b, off, e, hf, fun j u hu => ?_⟩
  obtain ⟨b', off', e', -, hc⟩ := h.cells j u hu
  rw [e] at e'
  injection e' with e'
  injection e' with e1 e2
  subst e1 e2
  exact hc
end
theorem flatten_getR {α : Type} {k : Nat} : ∀ (cs : List (List α)), (∀ x ∈ cs, x.length = k) → ∀ (i j : Nat), j < k → cs.flatten[i * k + j]? = cs[i]?.bind fun x => x[j]?
  | [], _, i, j, _ => by simp
  | x :: cs, h, i, j, hj => by
    have hx := h x (by simp)
    rw [List.flatten_cons]
    cases i with
    | zero => rw [List.getElem?_append_left (by rw [hx]; omega)]; simp
    | succ i =>
      rw [List.getElem?_append_right (by rw [hx, Nat.succ_mul]; omega), hx, show (i + 1) * k + j - k = i * k + j by rw [Nat.succ_mul]; omega, flatten_getR cs (fun y hy => h y (by simp [hy])) i j hj]
      simp
theorem rw_of_slk {w : World} {A : Option Addr} {k n : Nat} {rows : List (List Value)} {t : TypeId} (h : SlK w A k n rows) (hk : 0 < k) : RwAt 0 w.heap.size t k w A n rows.flatten := by
  have hlen : rows.flatten.length = n * k := by
    have h1 := h.len
    have h2 := h.row
    clear h
    subst h1
    induction rows with
    | nil => simp
    | cons r rows ih =>
      rw [List.flatten_cons, List.length_append, ih (fun i hi => by have := h2 (i + 1) (by simpa using hi); simpa using this)]
      have := h2 0 (by simp)
      simp at this
      rw [this, List.length_cons, Nat.succ_mul]; omega
  have hrow : ∀ x ∈ rows, x.length = k := fun x hx => by
    obtain ⟨i, hi, e⟩ := List.getElem_of_mem hx
    rw [← e]; exact h.row i hi
  refine ⟨hlen, fun j u hu => ?_⟩
  have hj := (List.getElem?_eq_some_iff.1 hu).1
  have hn : 0 < n := by
    rcases Nat.eq_zero_or_pos n with h0 | h0
    · subst h0; omega
    · exact h0
  obtain ⟨b, off, hA, hb, hc⟩ := SlK.at h hn hk
  have e : j = j / k * k + j % k := by rw [Nat.mul_comm]; exact (Nat.div_add_mod j k).symm
  have hm : j % k < k := Nat.mod_lt _ hk
  have hd : j / k < rows.length := by rw [h.len]; exact Nat.div_lt_of_lt_mul (by rw [Nat.mul_comm]; omega)
  have h3 := flatten_getR rows hrow (j / k) (j % k) hm
  rw [← e, hu, List.getElem?_eq_getElem hd, Option.bind_some] at h3
  refine ⟨b, off, hA, ⟨Nat.zero_le _, hb, .inl hb⟩, ?_⟩
  have := hc (j / k) hd (j % k) u h3.symm
  rwa [Nat.add_assoc, ← e] at this

/-- A slice of integers that stays. -/
abbrev IntsAt (lo base : Nat) (w : World) (A : Option Addr) (n : Nat) (l : List Int) : Prop := RwAt lo base 3 1 w A n (intC l)
theorem IntsAt.len {lo base n : Nat} {w : World} {A : Option Addr} {l : List Int} (h : IntsAt lo base w A n l) : l.length = n := by
  have := RwAt.len h
  rw [intC_len] at this
  omega
theorem ints_of_rdA {w : World} {m : Nat} {v : Value} (h : Rd Tryd.prog w (m + 2) 23 [v]) : ∃ A n c l, v = .slice A n c ∧ n ≤ c ∧ c ≤ 9223372036854775807 ∧ IntsAt 0 w.heap.size w A n l ∧ ∀ x ∈ l, -9223372036854775808 ≤ x ∧ x ≤ 9223372036854775807 := by
  obtain ⟨A, n, c, rows, rfl, hl, hm, hs, hr⟩ := slk_of_rd (n := m + 1) (k := 1) Tryd.underlying23 (by kernel_rfl) h
  obtain ⟨l, rfl, hw⟩ : ∃ l : List Int, rows = l.map (fun x => [Value.int .i64 x]) ∧ ∀ x ∈ l, -9223372036854775808 ≤ x ∧ x ≤ 9223372036854775807 := by
    clear hs hm hl h
    induction rows with
    | nil => exact ⟨[], rfl, by simp⟩
    | cons r rows ih =>
      obtain ⟨l, hl, hb⟩ := ih (fun x hx => hr x (by simp [hx]))
      obtain ⟨x, rfl, hx⟩ := rd_int Tryd.underlying3 (hr r (by simp))
      refine ⟨x :: l, by rw [hl]; rfl, fun y hy => ?_⟩
      rcases List.mem_cons.1 hy with rfl | hy
      · exact wf_bd_i64 hx
      · exact hb y hy
  have h5 := rw_of_slk (t := 3) hs (by decide)
  refine ⟨A, n, c, l, rfl, hl, hm, ?_, hw⟩
  have : (l.map fun x => [Value.int .i64 x]).flatten = intC l := by
    clear h5 hs hr h hw
    induction l with
    | nil => rfl
    | cons x l ih => rw [List.map_cons, List.flatten_cons, ih]; rfl
  rwa [this] at h5
end Go.Proofs.YtbamdibpkkponaaDoor

/- What is told of files, as it lies in memory: a number, a version, a list of blocks. -/
namespace Go.Proofs.YtbamdibpkkponaaDoor
open Go.RowKit

structure FI where
  ino : Int
  ver : Int
  ls : List Int
deriving DecidableEq
/-- The cells of one of them. -/
def fiV (f : FI) (A : Option Addr) (c : Nat) : List Value := [.int .i64 f.ino, .int .i64 f.ver, .slice A f.ls.length c]
def FiC (lo base : Nat) (w : World) (x : List Value) (f : FI) : Prop := ∃ A c, x = fiV f A c ∧ IntsAt lo base w A f.ls.length f.ls
/-- A slice of them. -/
def FisAt (lo base : Nat) (w : World) (A : Option Addr) (n : Nat) (fs : List FI) : Prop :=
  ∃ cs : List (List Value), fs.length = n ∧ cs.length = n ∧ RwAt lo base 46 3 w A n cs.flatten ∧ ∀ (j : Nat) (x : List Value) (f : FI), cs[j]? = some x → fs[j]? = some f → FiC lo base w x f
section
variable {lo base n : Nat} {w w' : World} {A : Option Addr} {fs : List FI} {T : List TypeId}
theorem FiC.kt {x : List Value} {f : FI} (h : FiC lo base w x f) (hk : Kt T base w w') (hT : 3 ∉ T) : FiC lo base w' x f := by
  obtain ⟨A, c, e, h1⟩ := h
  exact ⟨A, c, e, RwAt.kt h1 hk hT⟩
theorem FisAt.kt (h : FisAt lo base w A n fs) (hk : Kt T base w w') (hT : 3 ∉ T) (hF : 46 ∉ T) : FisAt lo base w' A n fs := by
  obtain ⟨cs, h1, h2, h3, h4⟩ := h
  exact ⟨cs, h1, h2, h3.kt hk hF, fun j x f hx hf => (h4 j x f hx hf).kt hk hT⟩
theorem FisAt.below (h : FisAt lo base w A n fs) (hb : Below w.heap.size w w') : FisAt lo base w' A n fs := h.kt (T := []) (Kt.of_below hb) (by simp) (by simp)
theorem FiC.base_ {base' : Nat} {x : List Value} {f : FI} (h : FiC lo base w x f) (hb : base ≤ base') : FiC lo base' w x f := by
  obtain ⟨A, c, e, h1⟩ := h
  exact ⟨A, c, e, RwAt.base_ h1 hb⟩
theorem FisAt.base_ {base' : Nat} (h : FisAt lo base w A n fs) (hb : base ≤ base') : FisAt lo base' w A n fs := by
  obtain ⟨cs, h1, h2, h3, h4⟩ := h
  exact ⟨cs, h1, h2, h3.base_ hb, fun j x f hx hf => (h4 j x f hx hf).base_ hb⟩
theorem FiC.lo_ {lo' : Nat} {x : List Value} {f : FI} (h : FiC lo base w x f) (hb : lo' ≤ lo) : FiC lo' base w x f := by
  obtain ⟨A, c, e, h1⟩ := h
  exact ⟨A, c, e, RwAt.lo_ h1 hb⟩
theorem FisAt.lo_ {lo' : Nat} (h : FisAt lo base w A n fs) (hb : lo' ≤ lo) : FisAt lo' base w A n fs := by
  obtain ⟨cs, h1, h2, h3, h4⟩ := h
  exact ⟨cs, h1, h2, h3.lo_ hb, fun j x f hx hf => (h4 j x f hx hf).lo_ hb⟩
theorem FisAt.len (h : FisAt lo base w A n fs) : fs.length = n := by obtain ⟨cs, h1, -⟩ := h; exact h1
theorem FisAt.nil : FisAt lo base w A 0 [] := ⟨[], rfl, rfl, RwAt.nil, by simp⟩
theorem FiC.one {x : List Value} {f : FI} (h : FiC lo base w x f) : x.length = 3 ∧ ∀ u ∈ x, u.oneCell' = true := by
  obtain ⟨A1, c1, rfl, -⟩ := h
  refine ⟨rfl, fun u hu => ?_⟩
  simp only [fiV, List.mem_cons, List.not_mem_nil, or_false] at hu
  rcases hu with rfl | rfl | rfl <;> rfl
theorem fis_cells {cs : List (List Value)} (hl : fs.length = cs.length) (h : ∀ (j : Nat) (x : List Value) (f : FI), cs[j]? = some x → fs[j]? = some f → FiC lo base w x f) : (∀ x ∈ cs, x.length = 3) ∧ ∀ u ∈ cs.flatten, u.oneCell' = true := by
  have hx : ∀ x ∈ cs, ∃ f, FiC lo base w x f := fun x hx => by
    obtain ⟨j, hj, e⟩ := List.getElem_of_mem hx
    exact ⟨fs[j]'(by omega), h j x _ (by rw [List.getElem?_eq_getElem hj, e]) (List.getElem?_eq_getElem (by omega))⟩
  refine ⟨fun x h => by obtain ⟨f, hf⟩ := hx x h; exact hf.one.1, fun u hu => ?_⟩
  obtain ⟨x, hxm, hux⟩ := List.mem_flatten.1 hu
  obtain ⟨f, hf⟩ := hx x hxm
  exact hf.one.2 u hux
/-- One of them. -/
theorem FisAt.at (h : FisAt lo base w A n fs) {j : Nat} (hj : j < n) : ∃ b off f A1 c1, A = some ⟨b, off, none⟩ ∧ Fr lo base 46 w b ∧ fs[j]? = some f ∧ IntsAt lo base w A1 f.ls.length f.ls ∧
    w.cell? ⟨b, off + j * 3, none⟩ = some (.int .i64 f.ino) ∧ w.cell? ⟨b, off + j * 3 + 1, none⟩ = some (.int .i64 f.ver) ∧ w.cell? ⟨b, off + j * 3 + 2, none⟩ = some (.slice A1 f.ls.length c1) := by
  obtain ⟨cs, h1, h2, h3, h4⟩ := h
  have hf : fs[j]? = some (fs[j]'(by omega)) := List.getElem?_eq_getElem _
  have hx : cs[j]? = some (cs[j]'(by omega)) := List.getElem?_eq_getElem _
  obtain ⟨A1, c1, e, r1⟩ := h4 j _ _ hx hf
  obtain ⟨k1, -⟩ := fis_cells (by omega) h4
  obtain ⟨b, off, hA, hF, hc⟩ := h3.at (by omega) (by decide)
  have hg : ∀ k u, k < 3 → (fiV fs[j] A1 c1)[k]? = some u → w.cell? ⟨b, off + j * 3 + k, none⟩ = some u := fun k u hk hu => by
    have h5 := flatten_getR cs k1 j k hk
    rw [hx, Option.bind_some, e, hu] at h5
    have := hc _ u h5
    rwa [← Nat.add_assoc] at this
  exact ⟨b, off, _, A1, c1, hA, hF, hf, r1, hg 0 _ (by decide) rfl, hg 1 _ (by decide) rfl, hg 2 _ (by decide) rfl⟩
end
set_option maxRecDepth 100000 in
/-- The files that came in. -/
theorem fis_of_rd {w : World} {v : Value} (h : Rd Tryd.prog w 10 22 [v]) : ∃ A n c fs, v = .slice A n c ∧ n ≤ c ∧ c ≤ 9223372036854775807 ∧ FisAt 0 w.heap.size w A n fs ∧
    ∀ f ∈ fs, (-9223372036854775808 ≤ f.ino ∧ f.ino ≤ 9223372036854775807) ∧ (-9223372036854775808 ≤ f.ver ∧ f.ver ≤ 9223372036854775807) ∧ (∀ x ∈ f.ls, -9223372036854775808 ≤ x ∧ x ≤ 9223372036854775807) ∧ f.ls.length ≤ 9223372036854775807 := by
  obtain ⟨A, n, c, rows, rfl, hl, hm, hs, hr⟩ := slk_of_rd (n := 9) (k := 3) Tryd.underlying22 (by kernel_rfl) h
  have hrow := hs.row
  obtain ⟨fs, hfl, hfs⟩ := list_of (Q := fun j (f : FI) => (∃ x, rows[j]? = some x ∧ FiC 0 w.heap.size w x f) ∧ (-9223372036854775808 ≤ f.ino ∧ f.ino ≤ 9223372036854775807) ∧ (-9223372036854775808 ≤ f.ver ∧ f.ver ≤ 9223372036854775807) ∧ (∀ x ∈ f.ls, -9223372036854775808 ≤ x ∧ x ≤ 9223372036854775807) ∧ f.ls.length ≤ 9223372036854775807) n (fun j hj => by
    have hjr : j < rows.length := by rw [hs.len]; exact hj
    have hg : rows[j]? = some (rows[j]'hjr) := List.getElem?_eq_getElem hjr
    have hrd := hr _ (List.getElem_mem hjr)
    have h3 := hrow j hjr
    revert hg hrd h3
    generalize rows[j]'hjr = r
    intro hg hrd h3
    match r, h3 with
    | [c0, c1, c2], _ =>
      obtain ⟨a, rfl, ha⟩ := rd_fld_int (n := 7) Tryd.underlying46 hrd 0 (u := 3) (o := 0) rfl (by kernel_rfl) Tryd.underlying3 rfl
      obtain ⟨b, rfl, hb⟩ := rd_fld_int (n := 7) Tryd.underlying46 hrd 1 (u := 3) (o := 1) rfl (by kernel_rfl) Tryd.underlying3 rfl
      have hl := rd_field (n := 8) Tryd.underlying46 hrd 2 (u := 23) (o := 2) rfl (c := 1) (by kernel_rfl)
      obtain ⟨A1, n1, c1, l, rfl, hnc, hcm, hat, hbd⟩ := ints_of_rdA (m := 6) (v := c2) (by simpa using hl)
      have := hat.len
      subst this
      exact ⟨⟨a, b, l⟩, ⟨_, hg, A1, c1, rfl, hat⟩, wf_bd_i64 ha, wf_bd_i64 hb, hbd, Nat.le_trans hnc hcm⟩)
  refine ⟨A, n, c, fs, rfl, hl, hm, ⟨rows, hfl, hs.len, rw_of_slk hs (by decide), fun j x f hx hf => ?_⟩, fun f hf => ?_⟩
  · obtain ⟨hj, e⟩ := List.getElem?_eq_some_iff.1 hf
    obtain ⟨⟨x', hx', hc⟩, -⟩ := hfs j hj
    rw [hx] at hx'
    injection hx' with hx'
    subst hx' e
    exact hc
  · obtain ⟨j, hj, e⟩ := List.getElem_of_mem hf
    subst e
    exact (hfs j hj).2
end Go.Proofs.YtbamdibpkkponaaDoor

/- A row of the call's own of what is told of files. -/
namespace Go.Proofs.YtbamdibpkkponaaDoor
open Go.RowKit

theorem _root_.Go.World.ownsRow.keep_far {w : World} {base n k : Nat} {e : TypeId} {v : Value} {xs : List Value} (h : w.ownsRow base e k v n xs) {p : Addr} (hp : ∀ g, v.ownBlock = some g → g ≠ p.block) (u : Value) : (w.setCell p u).ownsRow base e k v n xs := by
  refine ⟨h.1, ?_⟩
  rcases h.2 with h0 | ⟨g, cap, cur, rfl, h2, h3, h4⟩
  · exact .inl h0
  · exact .inr ⟨g, cap, cur, rfl, h2, (Below.heap_setCell w p u g (hp g rfl)).trans h3, h4⟩
/-- Two results, the first one in a cell. -/
theorem own_setk {w : World} {base n c k i : Nat} {e : TypeId} {A : Option Addr} {xs : List Value} (h : w.ownsRow base e k (.slice A n c) n xs) {g : Nat} (hA : A = some ⟨g, 0, none⟩) (_hi : i < n * k) (v : Value) :
    (w.setCell ⟨g, i, none⟩ v).ownsRow base e k (.slice A n c) n (xs.set i v) := by
  subst hA
  refine ⟨by rw [List.length_set]; exact h.1, ?_⟩
  rcases h.2 with ⟨e1, e2⟩ | ⟨g', cap, cur, e1, e2, e3, e4, e5, e6, e7⟩
  · cases e1
  · injection e1 with e1 _ e8
    injection e1 with e1
    injection e1 with e1 _
    subst e1 e8
    refine .inr ⟨g, c, cur.setIfInBounds i v, rfl, e2, Blk.set e3 i v, e4, e5, by rw [Array.size_setIfInBounds]; exact e6, ?_⟩
    rw [Array.toList_setIfInBounds, List.take_set, e7]
theorem flatten_set1 {α : Type} {k : Nat} : ∀ (cs : List (List α)), (∀ x ∈ cs, x.length = k) → ∀ (j : Nat) (hj : j < cs.length) (i : Nat), i < k → ∀ a : α,
    cs.flatten.set (j * k + i) a = (cs.set j ((cs[j]'hj).set i a)).flatten
  | [], _, j, hj, _, _, _ => by simp at hj
  | x :: cs, h, j, hj, i, hi, a => by
    have hx := h x (by simp)
    cases j with
    | zero =>
      rw [List.flatten_cons, List.set_cons_zero, List.flatten_cons, Nat.zero_mul, Nat.zero_add, List.set_append_left _ _ (by omega)]
      rfl
    | succ j =>
      rw [List.flatten_cons, List.set_cons_succ, List.flatten_cons, List.set_append_right _ _ (by rw [hx, Nat.succ_mul]; omega), hx, show (j + 1) * k + i - k = j * k + i by rw [Nat.succ_mul]; omega]
      rw [flatten_set1 cs (fun y hy => h y (by simp [hy])) j (by simpa using hj) i hi a]
      rfl
def FRow (base : Nat) (w : World) (A : Option Addr) (n c : Nat) (fs : List FI) : Prop :=
  ∃ cs : List (List Value), fs.length = n ∧ cs.length = n ∧ w.ownsRow base 46 3 (.slice A n c) n cs.flatten ∧ ∀ (j : Nat) (x : List Value) (f : FI), cs[j]? = some x → fs[j]? = some f → FiC base base w x f
theorem etyF : EtyK Tryd.prog 22 46 (.agg #[.int .i64 0, .int .i64 0, .slice none 0 0]) 3 40 := EtyK.mk' Tryd.underlying22 (by kernel_rfl) (by kernel_rfl) (by decide) (by decide)
section
variable {base n c : Nat} {w w' : World} {A : Option Addr} {fs : List FI}
theorem FRow.fis (h : FRow base w A n c fs) : FisAt base base w A n fs := by
  obtain ⟨cs, h1, h2, h3, h4⟩ := h
  exact ⟨cs, h1, h2, RwAt.of_own h3, h4⟩
theorem FRow.len (h : FRow base w A n c fs) : fs.length = n := by obtain ⟨cs, h1, -⟩ := h; exact h1
theorem FRow.blk (h : FRow base w A n c fs) {g : Nat} (hg : (Value.slice A n c).ownBlock = some g) : base ≤ g ∧ ∃ cs, Blk w g 46 cs := by
  obtain ⟨cs, h1, h2, h3, h4⟩ := h
  rcases h3.2 with ⟨e, -⟩ | ⟨g', cap, cur, e1, e2, e3, e4⟩
  · injection e with e _ _
    subst e
    cases hg
  · injection e1 with e1 _ _
    subst e1
    simp [Value.ownBlock] at hg
    subst hg
    exact ⟨e2, cur, e3⟩
theorem FRow.below (h : FRow base w A n c fs) (hb : Below w.heap.size w w') : FRow base w' A n c fs := by
  obtain ⟨cs, h1, h2, h3, h4⟩ := h
  exact ⟨cs, h1, h2, own_bel h3 hb, fun j x f hx hf => (h4 j x f hx hf).kt (T := []) (Kt.of_below hb) (by simp)⟩
theorem fis_len {lo m : Nat} (h : FisAt lo base w A m fs) (e : m = fs.length) : FisAt lo base w A fs.length fs := e ▸ h
/-- A cell of a block that is none of theirs. -/
theorem FRow.far (h : FRow base w A n c fs) {p : Addr} {t : TypeId} {cs : Array Value} (hB : Blk w p.block t cs) (hb : base ≤ p.block) (h1 : t ≠ 3) (h2 : t ≠ 46) (u : Value) : FRow base (w.setCell p u) A n c fs := by
  have h' := h
  obtain ⟨ds, e1, e2, e3, e4⟩ := h
  refine ⟨ds, e1, e2, e3.keep_far (fun g hg => ?_) u, fun j x f hx hf => (e4 j x f hx hf).kt (T := [t]) ((Kt.refl _ _ _).set (.inl ⟨hb, fun t' cs' hB' => by simp [(Blk.type hB' hB).1]⟩) u) (by simpa using Ne.symm h1)⟩
  obtain ⟨-, cs', hB'⟩ := h'.blk hg
  rintro rfl
  exact h2 (Blk.type hB hB').1
/-- More of them, in the row that append has left. -/
theorem FRow.app {m k c' : Nat} {A' : Option Addr} {gs : List FI} {cs ds : List (List Value)} (h1 : fs.length = n) (h2 : cs.length = n) (h3 : w.ownsRow base 46 3 (.slice A n c) n cs.flatten)
    (h4 : ∀ (j : Nat) (x : List Value) (f : FI), cs[j]? = some x → fs[j]? = some f → FiC base base w x f) (g1 : gs.length = k) (g2 : ds.length = k) (g4 : ∀ (j : Nat) (x : List Value) (f : FI), ds[j]? = some x → gs[j]? = some f → FiC base base w x f) (hm : m = n + k)
    (r1 : w'.ownsRow base 46 3 (.slice A' m c') m (cs.flatten ++ ds.flatten)) (r2 : w.grownBy w' (Value.slice A n c).ownBlock) : FRow base w' A' m c' (fs ++ gs) := by
  have hk : Kt [46] base w w' := Kt.gr r2 (fun g hg => by
    obtain ⟨hb, cs', hB⟩ := FRow.blk ⟨cs, h1, h2, h3, h4⟩ hg
    exact ⟨hb, _, cs', hB, by simp⟩)
  subst hm
  refine ⟨cs ++ ds, by rw [List.length_append]; omega, by rw [List.length_append]; omega, by rw [List.flatten_append]; exact r1, fun j y q hy hq => ?_⟩
  rcases Nat.lt_or_ge j n with hj | hj
  · rw [List.getElem?_append_left (by omega)] at hy hq
    exact (h4 j y q hy hq).kt hk (by decide)
  · rw [List.getElem?_append_right (by omega)] at hy hq
    rw [h2] at hy
    rw [h1] at hq
    exact (g4 _ y q hy hq).kt hk (by decide)
/-- One of them, to be written. -/
theorem FRow.at (h : FRow base w A n c fs) {j : Nat} (hj : j < n) : ∃ g f A1 c1, A = some ⟨g, 0, none⟩ ∧ base ≤ g ∧ (∃ cs, Blk w g 46 cs) ∧ fs[j]? = some f ∧ IntsAt base base w A1 f.ls.length f.ls ∧
    w.cell? ⟨g, j * 3 + 2, none⟩ = some (.slice A1 f.ls.length c1) ∧
    ∀ (w' : World) (A2 : Option Addr) (c2 : Nat) (l : List Int), Below w.heap.size w w' → IntsAt base base w' A2 l.length l → FRow base (w'.setCell ⟨g, j * 3 + 2, none⟩ (.slice A2 l.length c2)) A n c (fs.set j { f with ls := l }) := by
  obtain ⟨cs, h1, h2, h3, h4⟩ := h
  have hf : fs[j]? = some (fs[j]'(by omega)) := List.getElem?_eq_getElem _
  have hx : cs[j]? = some (cs[j]'(by omega)) := List.getElem?_eq_getElem _
  obtain ⟨A1, c1, e, r1⟩ := h4 j _ _ hx hf
  obtain ⟨k1, -⟩ := fis_cells (by omega) h4
  obtain ⟨g, hA⟩ : ∃ g, A = some ⟨g, 0, none⟩ := by
    rcases h3.2 with ⟨-, h0⟩ | ⟨g, cap, cur, hv, -⟩
    · omega
    · injection hv with hv1 _ _; exact ⟨g, hv1⟩
  subst hA
  obtain ⟨hbg, cs', hB⟩ := FRow.blk ⟨cs, h1, h2, h3, h4⟩ (g := g) rfl
  have h5 := flatten_getR cs k1 j 2 (by decide)
  rw [hx, Option.bind_some, e] at h5
  have h6 := h3.cells (g := g) rfl _ _ (h5.trans rfl)
  rw [Addr.add_mid, Nat.zero_add] at h6
  refine ⟨g, _, A1, c1, rfl, hbg, ⟨cs', hB⟩, hf, r1, h6, fun w' A2 c2 l hb hi => ?_⟩
  have hB' := hB.below hb
  have hk : Kt [46] base w' (w'.setCell ⟨g, j * 3 + 2, none⟩ (.slice A2 l.length c2)) := (Kt.refl _ _ _).set (.inl ⟨hbg, fun t cs hB2 => by have := (Blk.type hB2 hB').1; subst this; simp⟩) _
  have hk0 : Kt [46] base w (w'.setCell ⟨g, j * 3 + 2, none⟩ (.slice A2 l.length c2)) := (Kt.of_below hb).trans hk
  refine ⟨cs.set j (fiV { fs[j] with ls := l } A2 c2), by rw [List.length_set]; exact h1, by rw [List.length_set]; exact h2, ?_, fun i x q hx' hq' => ?_⟩
  · have h7 := own_setk (own_bel h3 hb) rfl (show j * 3 + 2 < n * 3 by omega) (.slice A2 l.length c2)
    rw [flatten_set1 cs k1 j (by omega) 2 (by decide)] at h7
    have e2 : (cs[j]'(by omega)).set 2 (.slice A2 l.length c2) = fiV { fs[j] with ls := l } A2 c2 := by rw [e]; rfl
    rwa [e2] at h7
  · by_cases e' : j = i
    · subst e'
      rw [List.getElem?_set_self (by omega)] at hx' hq'
      injection hx' with hx'
      injection hq' with hq'
      subst hx' hq'
      exact ⟨A2, c2, rfl, RwAt.kt hi hk (by decide)⟩
    · rw [List.getElem?_set_ne e'] at hx' hq'
      exact (h4 i x q hx' hq').kt hk0 (by decide)
end
end Go.Proofs.YtbamdibpkkponaaDoor

/- Size and blocks of a partial segment: the plain numbers. -/
namespace Go.Proofs.YtbamdibpkkponaaDoor

def sumN : List Nat → Nat
  | [] => 0
  | x :: xs => x + sumN xs
theorem sumN_app : ∀ a b : List Nat, sumN (a ++ b) = sumN a + sumN b
  | [], b => by simp [sumN]
  | x :: a, b => by simp [sumN, sumN_app a b]; omega
/-- Blocks of files. -/
def lsN (fs : List FI) : Nat := sumN (fs.map fun f => f.ls.length)
def blkN (fs : List FI) (is : List Int) : Nat := 2 + is.length + lsN fs
def szN (fs : List FI) (is : List Int) : Nat := 10 + is.length + (4 * fs.length + 2 * lsN fs)
theorem lsN_app (a b : List FI) : lsN (a ++ b) = lsN a + lsN b := by simp [lsN, sumN_app]
theorem lsN_take {fs : List FI} {j : Nat} {f : FI} (h : fs[j]? = some f) : lsN (fs.take (j + 1)) = lsN (fs.take j) + f.ls.length := by
  rw [List.take_add_one, h, lsN_app]; simp [lsN, sumN]
theorem lsN_le (fs : List FI) (j : Nat) : lsN (fs.take j) ≤ lsN fs := by
  have h := lsN_app (fs.take j) (fs.drop j)
  rw [List.take_append_drop] at h
  omega
theorem lsN_mem {fs : List FI} {j : Nat} {f : FI} (h : fs[j]? = some f) : f.ls.length ≤ lsN fs := by
  have := lsN_take h
  have := lsN_le fs (j + 1)
  omega
end Go.Proofs.YtbamdibpkkponaaDoor

/- Numbers as their lowest bytes. No program in sight. -/
namespace Go.Proofs.YtbamdibpkkponaaDoor
open Go.RowKit

/-- A number's lowest bytes. -/
def leN (n k : Nat) : List UInt8 := (List.range k).map fun i => UInt8.ofNat (n / 256 ^ i)
theorem leN_length (n k : Nat) : (leN n k).length = k := by simp [leN]
theorem leN_succ (n k : Nat) : leN n (k + 1) = leN n k ++ [UInt8.ofNat (n / 256 ^ k)] := by simp [leN, List.range_succ]
theorem leN_two (n : Nat) : leN n 2 = [UInt8.ofNat n, UInt8.ofNat (n / 256)] := by simp [leN, List.range_succ]
/-- The number that bytes are. -/
def numL : List UInt8 → Nat
  | [] => 0
  | b :: l => b.toNat + 256 * numL l
theorem numL_snoc (l : List UInt8) (b : UInt8) : numL (l ++ [b]) = numL l + b.toNat * 256 ^ l.length := by
  induction l with
  | nil => simp [numL]
  | cons x l ih => simp only [List.cons_append, numL, ih, List.length_cons, Nat.pow_succ]; rw [Nat.mul_add]; rw [show 256 * (b.toNat * 256 ^ l.length) = b.toNat * (256 ^ l.length * 256) by rw [Nat.mul_comm 256, Nat.mul_assoc]]; omega
theorem numL_lt (l : List UInt8) : numL l < 256 ^ l.length := by
  induction l with
  | nil => simp [numL]
  | cons x l ih =>
    have := x.toNat_lt
    simp only [numL, List.length_cons, Nat.pow_succ]
    omega
theorem numL_leN (n k : Nat) : numL (leN n k) = n % 256 ^ k := by
  induction k with
  | zero => simp [leN, numL, Nat.mod_one]
  | succ k ih => rw [leN_succ, numL_snoc, ih, leN_length, Nat.mod_pow_succ, UInt8.toNat_ofNat', Nat.mul_comm]
theorem leN_inj {a b k : Nat} (ha : a < 256 ^ k) (hb : b < 256 ^ k) (h : leN a k = leN b k) : a = b := by
  have := congrArg numL h
  rw [numL_leN, numL_leN, Nat.mod_eq_of_lt ha, Nat.mod_eq_of_lt hb] at this
  exact this
theorem ofInt_i64 (a : Nat) (ha : a < 9223372036854775808) : (BitVec.ofInt 64 (a : Int)).toNat = a := by
  rw [BitVec.ofInt_natCast, BitVec.toNat_ofNat]; exact Nat.mod_eq_of_lt (by omega)
theorem i64_or_nat (a b : Nat) (ha : a < 9223372036854775808) (hb : b < 9223372036854775808) : bits .or .i64 (a : Int) (b : Int) = ((a ||| b : Nat) : Int) := by
  have hx : a ||| b < 2 ^ 63 := Nat.or_lt_two_pow (by omega) (by omega)
  show IntKind.i64.wrap ((BitVec.ofInt 64 (a : Int) ||| BitVec.ofInt 64 (b : Int)).toNat : Int) = _
  rw [BitVec.toNat_or, ofInt_i64 a ha, ofInt_i64 b hb, IntKind.wrap_i64]
  omega
theorem or_num (a b k : Nat) (ha : a < 256 ^ k) (hb : b < 256) (hk : k ≤ 6) : bits .or .i64 (a : Int) ((b : Int) * 2 ^ (8 * k)) = ((a + b * 256 ^ k : Nat) : Int) := by
  have e : (256 : Nat) ^ k = 2 ^ (8 * k) := by rw [show (256 : Nat) = 2 ^ 8 by decide, ← Nat.pow_mul]
  have h1 : 2 ^ (8 * k) ≤ 2 ^ 48 := Nat.pow_le_pow_right (by omega) (by omega)
  have h2 : b * 2 ^ (8 * k) ≤ 256 * 2 ^ 48 := Nat.mul_le_mul (by omega) h1
  rw [e] at ha ⊢
  rw [show ((b : Int) * 2 ^ (8 * k)) = ((b * 2 ^ (8 * k) : Nat) : Int) by rw [Int.natCast_mul, Int.natCast_pow]; rfl]
  rw [i64_or_nat _ _ (by omega) (by omega), Nat.mul_comm b, Nat.or_comm, ← Nat.two_pow_add_eq_or_of_lt ha, Nat.add_comm]
/-- The number that stands at a place. -/
def fld (l : List UInt8) (i n : Nat) : Nat := numL ((l.drop i).take n)
theorem fld_lt (l : List UInt8) (i n : Nat) : fld l i n < 256 ^ n := by
  have h := numL_lt ((l.drop i).take n)
  have h2 : ((l.drop i).take n).length ≤ n := List.length_take_le _ _
  exact Nat.lt_of_lt_of_le h (Nat.pow_le_pow_right (by omega) h2)
theorem drop_take2 {l : List UInt8} {i : Nat} (h : i + 1 < l.length) : (l.drop i).take 2 = [l[i], l[i + 1]] := by
  rw [List.drop_eq_getElem_cons (by omega), List.drop_eq_getElem_cons (by omega)]
  rfl
theorem fld2_eq {l : List UInt8} {i : Nat} (h : i + 1 < l.length) : fld l i 2 = l[i].toNat + 256 * l[i + 1].toNat := by
  unfold fld
  rw [drop_take2 h]
  simp [numL]
theorem fld2_leN {l : List UInt8} {i x : Nat} {pre rest : List UInt8} (h : l = pre ++ (leN x 2 ++ rest)) (hi : pre.length = i) : fld l i 2 = x % 65536 := by
  unfold fld
  rw [h, List.drop_left' hi, List.take_left' (leN_length x 2), numL_leN]
end Go.Proofs.YtbamdibpkkponaaDoor

/- A summary's blocks, in plain lists. No program in sight. -/
namespace Go.Proofs.YtbamdibpkkponaaDoor
open Go.RowKit

/-- A number's lowest byte; its two lowest. -/
def b8 (n : Int) : UInt8 := UInt8.ofNat (n % 256).toNat
def tw (n : Int) : List UInt8 := [b8 n, b8 (n / 256)]
theorem tw_len (n : Int) : (tw n).length = 2 := rfl
theorem b8_val (n : Int) : ((b8 n).toNat : Int) = n % 256 := by
  unfold b8
  rw [UInt8.toNat_ofNat']
  omega
theorem b8_wrap (n : Int) : IntKind.u8.wrap n = ((b8 n).toNat : Int) := by rw [b8_val]; simp [IntKind.wrap, IntKind.bits, IntKind.signed]
theorem tw_nat (n : Nat) : tw (n : Int) = leN n 2 := by
  rw [leN_two]
  simp only [tw, List.cons.injEq, and_true]
  constructor <;> (apply UInt8.toNat_inj.1; have := b8_val (n : Int); have := b8_val ((n : Int) / 256); rw [UInt8.toNat_ofNat']; omega)
def fileB (f : FI) : List UInt8 := [b8 f.ino] ++ tw f.ver ++ [b8 f.ls.length] ++ f.ls.flatMap fun l => tw (l + 1000)
def headB (i p x : Int) (nf ni : Nat) (sum : Nat) : List UInt8 := [b8 i, b8 p] ++ tw x ++ [b8 nf, b8 ni] ++ tw ((sum % 65536 : Nat) : Int) ++ tw ((sum / 65536 : Nat) : Int)
theorem headB_len (i p x : Int) (nf ni sum : Nat) : (headB i p x nf ni sum).length = 10 := rfl
theorem twL_len (ls : List Int) : (ls.flatMap fun l => tw (l + 1000)).length = 2 * ls.length := by
  induction ls with
  | nil => rfl
  | cons a ls ih => rw [List.flatMap_cons, List.length_append, ih, tw_len, List.length_cons]; omega
theorem fileB_len (f : FI) : (fileB f).length = 4 + 2 * f.ls.length := by
  unfold fileB
  rw [List.length_append, twL_len]
  rfl
theorem filesB_len (fs : List FI) : (fs.flatMap fileB).length = 4 * fs.length + 2 * lsN fs := by
  induction fs with
  | nil => rfl
  | cons f fs ih =>
    rw [List.flatMap_cons, List.length_append, ih, fileB_len, List.length_cons]
    simp only [lsN, List.map_cons, sumN]
    omega
/-- The words, and zeros behind them. -/
def bodyB (i p x : Int) (fs : List FI) (is : List Int) (sum : Nat) : List UInt8 := headB i p x fs.length is.length sum ++ fs.flatMap fileB ++ is.map b8
theorem bodyB_len (i p x : Int) (fs : List FI) (is : List Int) (sum : Nat) : (bodyB i p x fs is sum).length = szN fs is := by
  unfold bodyB szN
  rw [List.length_append, List.length_append, filesB_len, List.length_map, headB_len]
  omega
def wordsB (i p x : Int) (fs : List FI) (is : List Int) (sum : Nat) : List UInt8 := bodyB i p x fs is sum ++ List.replicate (88 - szN fs is) 0
theorem wordsB_len {i p x : Int} {fs : List FI} {is : List Int} {sum : Nat} (h : szN fs is ≤ 88) : (wordsB i p x fs is sum).length = 88 := by
  unfold wordsB
  rw [List.length_append, bodyB_len, List.length_replicate]
  omega
/-- A sector. -/
def secB (e c : Int) (w : List UInt8) (s : Nat) : List UInt8 := tw e ++ tw c ++ [b8 s] ++ (w.drop (11 * s)).take 11
theorem secB_len {e c : Int} {w : List UInt8} {s : Nat} (hw : w.length = 88) (hs : s < 8) : (secB e c w s).length = 16 := by
  unfold secB
  rw [List.length_append, List.length_take, List.length_drop, hw]
  show 5 + _ = 16
  omega
def encB (e c : Int) (w : List UInt8) : List UInt8 := (List.range 8).flatMap fun s => secB e c w s
theorem encB_len {e c : Int} {w : List UInt8} (hw : w.length = 88) : (encB e c w).length = 128 := by
  unfold encB
  simp only [List.range_succ, List.range_zero, List.nil_append, List.flatMap_append, List.flatMap_cons, List.flatMap_nil, List.append_nil, List.length_append]
  rw [secB_len hw (by omega), secB_len hw (by omega), secB_len hw (by omega), secB_len hw (by omega), secB_len hw (by omega), secB_len hw (by omega), secB_len hw (by omega), secB_len hw (by omega)]
end Go.Proofs.YtbamdibpkkponaaDoor

/- The walks over summary.Size, summary.Blocks. -/
namespace Go.Proofs.YtbamdibpkkponaaDoor
open Go.RowKit
attribute [local go_sem ↓] Go.wp_at_zero Go.wp_at_succ

/-- A partial segment's value. -/
def partC (e c i p x : Int) (A1 : Option Addr) (n1 c1 : Nat) (A2 : Option Addr) (n2 c2 : Nat) : Array Value := #[.int .i64 e, .int .i64 c, .int .i64 i, .int .i64 p, .int .i64 x, .slice A1 n1 c1, .slice A2 n2 c2]
set_option maxRecDepth 100000 in
theorem size_any (e c i p x : Int) (A1 A2 : Option Addr) (n1 c1 n2 c2 lo base : Nat) (fs : List FI) (w : World) (h : FisAt lo base w A1 n1 fs) (hn : n1 ≤ 100000) (hn2 : n2 ≤ 100000) (hl : lsN fs ≤ 100000) :
    Calls Tryd.prog 15 #[.agg (partC e c i p x A1 n1 c1 A2 n2 c2)] w fun r w' => r = .returned (.int .i64 ((10 + n2 + (4 * n1 + 2 * lsN fs) : Nat) : Int)) ∧ Below w.heap.size w w' := by
  have H := hide h
  have HL := hide h.len
  clear h
  unfold partC
  go_enter Tryd.func15, Tryd.ntmps15
  go_wp2_with fail
  go_loopw [3, 13] (fun y z wr => ∃ j : Nat, j ≤ n1 ∧ z = .int .i64 (j : Int) ∧ y = .int .i64 ((10 + n2 + (4 * j + 2 * lsN (fs.take j)) : Nat) : Int) ∧ Below w.heap.size w wr) (fun _ z _ => n1 - (intOf z).toNat)
  case atStart => exact ⟨0, Nat.zero_le _, rfl, by simp [lsN, sumN], ((Below.refl _ _).alloc (Nat.le_refl _) _)⟩
  case round =>
    obtain ⟨j, hj, rfl, rfl, hb⟩ := hrel
    have Hb := hide hb
    clear hb
    by_cases hlt : j < n1
    · obtain ⟨b, off, f, A3, c3, hA, hF, hf, hi, q0, q1, q2⟩ := (H.out.below Hb.out).at hlt
      subst hA
      have HF := hide hf
      have hfl : Hid (f.ls.length ≤ 100000) := hide (Nat.le_trans (lsN_mem hf) hl)
      obtain ⟨m, hm⟩ : ∃ m, m = f.ls.length := ⟨_, rfl⟩
      rw [← hm] at q2 hfl
      have HM := hide hm
      have hm5 := hfl.out
      clear hf hi hF hm hfl
      have e1 := hide (lsN_take HF.out)
      have e2 := hide (lsN_le fs j)
      go_wp2_with fail
      go_roundw
      case rel =>
        refine ⟨j + 1, by omega, by go_num, ?_, Hb.out.alloc Hb.out.size _⟩
        have e1 := e1.out
        have e2 := e2.out
        have hm := HM.out
        rw [IntWalk.wrap64_in _ (by omega), e1]
        congr 1
        omega
      case measure => simp [intOf]; omega
    · have hjn : j = n1 := by omega
      subst hjn
      have e := List.take_of_length_le (Nat.le_of_eq HL.out)
      rw [e]
      go_wp2_with fail
      go_ret
      exact ⟨rfl, Hb.out⟩
set_option maxRecDepth 100000 in
theorem sblocks_any (e c i p x : Int) (A1 A2 : Option Addr) (n1 c1 n2 c2 lo base : Nat) (fs : List FI) (w : World) (h : FisAt lo base w A1 n1 fs) (hn : n1 ≤ 100000) (hn2 : n2 ≤ 100000) (hl : lsN fs ≤ 100000) :
    Calls Tryd.prog 17 #[.agg (partC e c i p x A1 n1 c1 A2 n2 c2)] w fun r w' => r = .returned (.int .i64 ((2 + n2 + lsN fs : Nat) : Int)) ∧ Below w.heap.size w w' := by
  have H := hide h
  have HL := hide h.len
  clear h
  unfold partC
  go_enter Tryd.func17, Tryd.ntmps17
  go_wp2_with fail
  go_loopw [3, 13] (fun y z wr => ∃ j : Nat, j ≤ n1 ∧ z = .int .i64 (j : Int) ∧ y = .int .i64 ((2 + n2 + lsN (fs.take j) : Nat) : Int) ∧ Below w.heap.size w wr) (fun _ z _ => n1 - (intOf z).toNat)
  case atStart => exact ⟨0, Nat.zero_le _, rfl, by simp [lsN, sumN], ((Below.refl _ _).alloc (Nat.le_refl _) _)⟩
  case round =>
    obtain ⟨j, hj, rfl, rfl, hb⟩ := hrel
    have Hb := hide hb
    clear hb
    by_cases hlt : j < n1
    · obtain ⟨b, off, f, A3, c3, hA, hF, hf, hi, q0, q1, q2⟩ := (H.out.below Hb.out).at hlt
      subst hA
      have HF := hide hf
      have hfl : Hid (f.ls.length ≤ 100000) := hide (Nat.le_trans (lsN_mem hf) hl)
      obtain ⟨m, hm⟩ : ∃ m, m = f.ls.length := ⟨_, rfl⟩
      rw [← hm] at q2 hfl
      have HM := hide hm
      have hm5 := hfl.out
      clear hf hi hF hm hfl
      have e1 := hide (lsN_take HF.out)
      have e2 := hide (lsN_le fs j)
      go_wp2_with fail
      go_roundw
      case rel =>
        refine ⟨j + 1, by omega, by go_num, ?_, Hb.out.alloc Hb.out.size _⟩
        have e1 := e1.out
        have e2 := e2.out
        have hm := HM.out
        rw [IntWalk.wrap64_in _ (by omega), e1]
        congr 1
        omega
      case measure => simp [intOf]; omega
    · have hjn : j = n1 := by omega
      subst hjn
      have e := List.take_of_length_le (Nat.le_of_eq HL.out)
      rw [e]
      go_wp2_with fail
      go_ret
      exact ⟨rfl, Hb.out⟩
end Go.Proofs.YtbamdibpkkponaaDoor

/- The table marl/index.span: what the row's condition says of its cells; a world for the witness. -/
namespace Go.Proofs.YtbamdibpkkponaaDoor
open Go.RowKit Go.ChangeShapes Go.WideShapes Go.ChangeAt

/-- The table's name, as the given rows tell it. -/
abbrev spanName : String := Rows.summaryWritesRow.named.headD ""
theorem gSpan : Tryd.prog.globalNamed spanName = some 0 := by kernel_rfl
theorem gSpanType : (Tryd.prog.globals[0]?).map (·.type) = some 82 := by kernel_rfl
theorem cellsSpan : Tryd.prog.cellsOf 82 = 5 := by kernel_rfl
theorem cellsInt : Tryd.prog.cellsOf 3 = 1 := by kernel_rfl
/-- What the table holds. -/
structure SpanAt (w : World) : Prop where
  c0 : w.cell? ⟨0, 0, none⟩ = some (.int .i64 0)
  c1 : w.cell? ⟨0, 1, none⟩ = some (.int .i64 6)
  c2 : w.cell? ⟨0, 2, none⟩ = some (.int .i64 22)
  c3 : w.cell? ⟨0, 3, none⟩ = some (.int .i64 278)
  c4 : w.cell? ⟨0, 4, none⟩ = some (.int .i64 1073741824)
theorem SpanAt.lt {w : World} (h : SpanAt w) : 0 < w.heap.size := by
  rcases Nat.lt_or_ge 0 w.heap.size with hl | hg
  · exact hl
  · have := h.c0
    unfold World.cell? at this
    rw [Array.getElem?_eq_none hg] at this
    cases this
theorem SpanAt.below {w w' : World} {B : Nat} (h : SpanAt w) (hb : Below B w w') (hB : 0 < B) : SpanAt w' :=
  ⟨(hb.cell (p := ⟨_, 0, none⟩) hB).trans h.c0, (hb.cell (p := ⟨_, 1, none⟩) hB).trans h.c1, (hb.cell (p := ⟨_, 2, none⟩) hB).trans h.c2, (hb.cell (p := ⟨_, 3, none⟩) hB).trans h.c3, (hb.cell (p := ⟨_, 4, none⟩) hB).trans h.c4⟩
theorem SpanAt.bel {w w' : World} (h : SpanAt w) (hb : Below w.heap.size w w') : SpanAt w' := h.below hb h.lt
theorem SpanAt.drew {w : World} (h : SpanAt w) : SpanAt w.drew := ⟨h.c0, h.c1, h.c2, h.c3, h.c4⟩
theorem SpanAt.drewN {w : World} (h : SpanAt w) (n : Nat) : SpanAt (w.drewN n) := ⟨h.c0, h.c1, h.c2, h.c3, h.c4⟩
theorem SpanAt.alloc {w : World} (h : SpanAt w) (o : Obj) : SpanAt (w.alloc o) := h.bel ((Below.refl _ _).alloc (Nat.le_refl _) o)

theorem span_of_laid {W : World} (h : laidMetH Tryd.prog [(spanName, Rows.laid_marl_index_span)] W) : SpanAt W := by
  have ht : Lib.TabIs Tryd.prog W spanName .i64 [0, 6, 22, 278, 1073741824] :=
    Lib.tabIs_of_head (rest := []) gSpan gSpanType Tryd.underlying82 Tryd.underlying3 cellsInt cellsSpan h
  exact ⟨ht.cell gSpan 0 (by decide), ht.cell gSpan 1 (by decide), ht.cell gSpan 2 (by decide), ht.cell gSpan 3 (by decide), ht.cell gSpan 4 (by decide)⟩

/-- A world for the witness: the settled one, the table holding what its initialiser lays. -/
noncomputable def laidWorld (os : Os) : World :=
  { World.holding Tryd.prog os ⟨#[], #[], []⟩ with heap := (World.holding Tryd.prog os ⟨#[], #[], []⟩).heap.modify 0 fun
      | .cells _ t frozen => .cells #[.int .i64 0, .int .i64 6, .int .i64 22, .int .i64 278, .int .i64 1073741824] t frozen
      | o => o }
end Go.Proofs.YtbamdibpkkponaaDoor

/- The index in plain numbers: what the program finds, what the reference lists, and that they agree. No program in sight. -/
namespace Go.Proofs.YtbamdibpkkponaaDoor

/-- From where on, behind the direct pointers. -/
def spanN : Nat → Nat
  | 0 => 0
  | 1 => 6
  | 2 => 22
  | 3 => 278
  | _ => 1073741824
/-- By how many levels a data block is reached. -/
def rootN (f : Nat) : Nat := if f < 6 then 0 else if f < 22 then 1 else if f < 278 then 2 else 3
/-- May a block of pointers of this level begin at f? -/
def okL (f l : Nat) : Bool := decide (f < 600) && decide (l ≤ rootN f) && decide ((f - spanN (rootN f)) % 16 ^ l = 0)
/-- The candidate's first data of a level; -1: none. -/
def candI (n : Int) (l : Nat) : Int := -(n + (l : Int) - 1)
def hitL (n : Int) (l : Nat) : Bool := decide (0 ≤ candI n l) && okL (candI n l).toNat l
/-- What the program finds: the level, the first data. -/
def findP (n : Int) : Option (Nat × Nat) :=
  if 0 ≤ n then (if n < 600 then some (0, n.toNat) else none)
  else if hitL n 1 then some (1, (candI n 1).toNat)
  else if hitL n 2 then some (2, (candI n 2).toNat)
  else if hitL n 3 then some (3, (candI n 3).toNat)
  else none
structure PathL where
  root : Nat
  metas : List Int
  slots : List Nat
deriving DecidableEq
/-- The way down: from level k, m levels. -/
def wayP (k i : Nat) : Nat → PathL
  | 0 => ⟨5 + k, [], []⟩
  | m + 1 =>
    let p := wayP k i m
    let lev := k - m
    let at_ := i - i % 16 ^ lev
    ⟨p.root, p.metas ++ [-((spanN k + at_ : Nat) : Int) - ((lev : Int) - 1)], p.slots ++ [(i - at_) / 16 ^ (lev - 1)]⟩
/-- The program's path. -/
def toP (n : Int) : Option PathL :=
  match findP n with
  | none => none
  | some (l, f) => if rootN f = 0 then some ⟨f, [], []⟩ else some (wayP (rootN f) (f - spanN (rootN f)) (rootN f - l))

/-- A block of pointers, as the reference lists it. -/
structure MetaL where
  n : Int
  level : Nat
  first : Nat
  p : PathL
deriving DecidableEq
def belowR : Nat → Nat → PathL → List MetaL
  | 0, _, _ => []
  | l + 1, first, p =>
    if 600 ≤ first then [] else
      ⟨-(first : Int) - (l : Int), l + 1, first, p⟩ ::
        (List.range 16).flatMap fun i => belowR l (first + i * 16 ^ l) ⟨p.root, p.metas ++ [-(first : Int) - (l : Int)], p.slots ++ [i]⟩
def allR : List MetaL := belowR 1 6 ⟨6, [], []⟩ ++ belowR 2 22 ⟨7, [], []⟩ ++ belowR 3 278 ⟨8, [], []⟩
/-- What the reference finds on its list. -/
def findL (n : Int) : List MetaL → Option MetaL
  | [] => none
  | m :: l => if m.n = n then some m
    else if m.level = 1 ∧ (m.first : Int) ≤ n ∧ n < (m.first : Int) + 16 ∧ n < 600 then some ⟨n, 0, n.toNat, ⟨m.p.root, m.p.metas ++ [m.n], m.p.slots ++ [(n - (m.first : Int)).toNat]⟩⟩
    else findL n l
def findR (n : Int) : Option MetaL := if 0 ≤ n ∧ n < 6 then some ⟨n, 0, n.toNat, ⟨n.toNat, [], []⟩⟩ else findL n allR
def manyN (l f : Nat) : Nat := min (16 ^ l) (600 - f)

def okAt (n : Int) : Bool := match findR n, findP n, toP n with
  | none, none, none => true
  | some m, some (l, f), some p => decide (m.n = n ∧ m.level = l ∧ m.first = f ∧ m.p = p)
  | _, _, _ => false
theorem ok_all : (List.range 1210).all (fun i => okAt ((i : Int) - 605)) = true := by decide +kernel
theorem all_bd : allR.all (fun m => decide (-602 ≤ m.n ∧ m.n < 0 ∧ m.first < 600)) = true := by decide +kernel
theorem findL_none (n : Int) (hn : n < -605 ∨ 605 ≤ n) : ∀ l : List MetaL, (∀ m ∈ l, -602 ≤ m.n ∧ m.n < 0 ∧ m.first < 600) → findL n l = none
  | [], _ => rfl
  | m :: l, h => by
    have hm := h m (by simp)
    unfold findL
    rw [if_neg (by omega), if_neg (by omega)]
    exact findL_none n hn l (fun x hx => h x (by simp [hx]))
theorem findP_out (n : Int) (hn : n < -605 ∨ 605 ≤ n) : findP n = none := by
  unfold findP
  rcases hn with hn | hn
  · have hc : ∀ l : Nat, l ≤ 3 → 1 ≤ l → hitL n l = false := fun l hl h1 => by
      unfold hitL okL candI
      have : ¬ ((-(n + (l : Int) - 1)).toNat < 600) := by omega
      simp [this]
    rw [if_neg (by omega), if_neg (by simp [hc 1]), if_neg (by simp [hc 2]), if_neg (by simp [hc 3])]
  · rw [if_pos (by omega), if_neg (by omega)]
theorem okAt_any (n : Int) : okAt n = true := by
  by_cases h : n < -605 ∨ 605 ≤ n
  · have h1 : findR n = none := by
      unfold findR
      rw [if_neg (by omega)]
      refine findL_none n h _ fun m hm => ?_
      have := List.all_eq_true.1 all_bd m hm
      simpa using this
    have h2 := findP_out n h
    have h3 : toP n = none := by unfold toP; rw [h2]
    unfold okAt
    rw [h1, h2, h3]
  · have := List.all_eq_true.1 ok_all (n + 605).toNat (by simp; omega)
    rwa [show (((n + 605).toNat : Nat) : Int) - 605 = n by omega] at this
/-- They agree. -/
theorem find_agree (n : Int) : (findP n = none ∧ findR n = none ∧ toP n = none) ∨ ∃ m, findR n = some m ∧ findP n = some (m.level, m.first) ∧ toP n = some m.p ∧ m.n = n := by
  have h := okAt_any n
  unfold okAt at h
  split at h
  · rename_i h1 h2 h3; exact .inl ⟨h2, h1, h3⟩
  · rename_i m l f p h1 h2 h3
    obtain ⟨e1, rfl, rfl, rfl⟩ := of_decide_eq_true h
    exact .inr ⟨m, h1, h2, h3, e1⟩
  · cases h
theorem findP_bd {n : Int} {l f : Nat} (h : findP n = some (l, f)) : l ≤ 3 ∧ f < 600 ∧ (l = 0 → n = (f : Int)) ∧ -605 ≤ n ∧ n < 605 := by
  have hn : -605 ≤ n ∧ n < 605 := by
    by_cases hh : n < -605 ∨ 605 ≤ n
    · rw [findP_out n hh] at h; cases h
    · omega
  unfold findP at h
  have hb : ∀ l, hitL n l = true → (candI n l).toNat < 600 := fun l hl => by
    unfold hitL okL at hl
    simp at hl
    have := hl.2.1.1
    omega
  split at h
  · split at h
    · injection h with h; injection h with h1 h2; subst h1 h2; omega
    · cases h
  · split at h
    · rename_i hh; have := hb _ hh; injection h with h; injection h with h1 h2; subst h1 h2; omega
    · split at h
      · rename_i hh; have := hb _ hh; injection h with h; injection h with h1 h2; subst h1 h2; omega
      · split at h
        · rename_i hh; have := hb _ hh; injection h with h; injection h with h1 h2; subst h1 h2; omega
        · cases h
end Go.Proofs.YtbamdibpkkponaaDoor
