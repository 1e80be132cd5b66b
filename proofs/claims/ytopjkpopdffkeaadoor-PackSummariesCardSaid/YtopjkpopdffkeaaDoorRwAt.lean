/- Rows in memory that nobody writes: a reading that outlives writes into blocks of some types. -/
import Derived.Test.YtopjkpopdffkeaaDoorRowK
import Derived.Test.YtopjkpopdffkeaaDoorRdMore
set_option linter.unusedVariables false
set_option linter.unusedSimpArgs false
namespace Go.Proofs.YtopjkpopdffkeaaDoor
open Go.RowKit

/-- All blocks but those at base and above of these types are as they were. -/
structure Kt (T : List TypeId) (base : Nat) (w w' : World) : Prop where
  os : w'.os = w.os
  tape : w'.tape = w.tape
  output : w'.output = w.output
  size : w.heap.size ≤ w'.heap.size
  block : ∀ k, k < w.heap.size → (k < base ∨ ∃ t cs, Blk w k t cs ∧ t ∉ T) → w'.heap[k]? = w.heap[k]?
section
variable {T : List TypeId} {base lo : Nat} {w w' w2 : World}
theorem Kt.refl (T : List TypeId) (base : Nat) (w : World) : Kt T base w w := ⟨rfl, rfl, rfl, Nat.le_refl _, fun _ _ _ => rfl⟩
theorem Kt.trans (h : Kt T base w w') (k : Kt T base w' w2) : Kt T base w w2 :=
  ⟨k.os.trans h.os, k.tape.trans h.tape, k.output.trans h.output, Nat.le_trans h.size k.size, fun i hi hn => by
    have h1 := h.block i hi hn
    refine (k.block i (Nat.lt_of_lt_of_le hi h.size) ?_).trans h1
    rcases hn with hn | ⟨t, cs, hb, ht⟩
    · exact .inl hn
    · exact .inr ⟨t, cs, h1.trans hb, ht⟩⟩
theorem Kt.of_below (h : Below w.heap.size w w') : Kt T base w w' := ⟨h.os, h.tape, h.output, h.size, fun i hi _ => h.block i hi⟩
theorem Kt.drew (h : Kt T base w w') : Kt T base w w'.drew := ⟨h.os, h.tape, h.output, h.size, h.block⟩
theorem Kt.drewN (h : Kt T base w w') (n : Nat) : Kt T base w (w'.drewN n) := ⟨h.os, h.tape, h.output, h.size, h.block⟩
theorem Kt.alloc (h : Kt T base w w') (o : Obj) : Kt T base w (w'.alloc o) :=
  ⟨h.os, h.tape, h.output, Nat.le_trans h.size (by simp), fun i hi hn => (Below.heap_alloc w' o i (Nat.lt_of_lt_of_le hi h.size)).trans (h.block i hi hn)⟩
theorem Kt.set (h : Kt T base w w') {p : Addr} (hp : (base ≤ p.block ∧ ∀ t cs, Blk w p.block t cs → t ∈ T) ∨ w.heap.size ≤ p.block) (u : Value) : Kt T base w (w'.setCell p u) :=
  ⟨h.os, h.tape, h.output, by simpa [World.setCell] using h.size, fun i hi hn => (Below.heap_setCell w' p u i (by
    rintro rfl
    rcases hp with ⟨hp, ht⟩ | hp
    · rcases hn with hn | ⟨t, cs, hb, hnt⟩
      · omega
      · exact hnt (ht t cs hb)
    · omega)).trans (h.block i hi hn)⟩
theorem Kt.below (h : Kt T base w w') (hB : base ≤ w.heap.size) : Below base w w' :=
  ⟨h.os, h.tape, h.output, h.size, fun k hk => h.block k (Nat.lt_of_lt_of_le hk hB) (.inl hk)⟩
theorem Kt.gr {r : Option Nat} (h : w.grownBy w' r) (hr : ∀ g, r = some g → base ≤ g ∧ ∃ t cs, Blk w g t cs ∧ t ∈ T) : Kt T base w w' :=
  ⟨h.os, h.tape, h.output, h.size, fun k hk hn => h.block k hk (fun e => by
    obtain ⟨hb, t, cs, hB, ht⟩ := hr k e.symm
    rcases hn with hn | ⟨t', cs', hB', ht'⟩
    · omega
    · have h5 : some (Obj.cells cs t) = some (Obj.cells cs' t') := hB.symm.trans hB'
      simp at h5
      exact ht' (h5.2 ▸ ht))⟩
theorem Blk.type {g : Nat} {t t' : TypeId} {cs cs' : Array Value} (h : Blk w g t cs) (h' : Blk w g t' cs') : t = t' ∧ cs = cs' := by
  have h5 : some (Obj.cells cs t) = some (Obj.cells cs' t') := h.symm.trans h'
  simp at h5
  exact ⟨h5.2, h5.1⟩
theorem Blk.kt {g : Nat} {t : TypeId} {cs : Array Value} (h : Blk w g t cs) (hk : Kt T base w w') (ht : t ∉ T) : Blk w' g t cs := (hk.block g h.lt (.inr ⟨t, cs, h, ht⟩)).trans h

/-- A block that stays: from lo on; below base, or of this type. -/
def Fr (lo base : Nat) (t : TypeId) (w : World) (b : Nat) : Prop := lo ≤ b ∧ b < w.heap.size ∧ (b < base ∨ ∃ cs, Blk w b t cs)
theorem Fr.kt {t : TypeId} {b : Nat} (h : Fr lo base t w b) (hk : Kt T base w w') (ht : t ∉ T) : Fr lo base t w' b ∧ w'.heap[b]? = w.heap[b]? := by
  obtain ⟨h0, h1, h2⟩ := h
  have e : w'.heap[b]? = w.heap[b]? := hk.block b h1 (by
    rcases h2 with h2 | ⟨cs, h2⟩
    · exact .inl h2
    · exact .inr ⟨t, cs, h2, ht⟩)
  refine ⟨⟨h0, Nat.lt_of_lt_of_le h1 hk.size, ?_⟩, e⟩
  rcases h2 with h2 | ⟨cs, h2⟩
  · exact .inl h2
  · exact .inr ⟨cs, e.trans h2⟩
/-- What a slice of elements of k cells holds, all cells one behind the other. -/
structure RwAt (lo base : Nat) (t : TypeId) (k : Nat) (w : World) (A : Option Addr) (n : Nat) (xs : List Value) : Prop where
  len : xs.length = n * k
  cells : ∀ (j : Nat) (u : Value), xs[j]? = some u → ∃ b off, A = some ⟨b, off, none⟩ ∧ Fr lo base t w b ∧ w.cell? ⟨b, off + j, none⟩ = some u
theorem cell_same {b off : Nat} (e : w'.heap[b]? = w.heap[b]?) : w'.cell? ⟨b, off, none⟩ = w.cell? ⟨b, off, none⟩ := by
  simp only [World.cell?, e]
variable {t : TypeId} {k n : Nat} {A : Option Addr} {xs : List Value}
theorem RwAt.kt (h : RwAt lo base t k w A n xs) (hk : Kt T base w w') (ht : t ∉ T) : RwAt lo base t k w' A n xs :=
  ⟨h.len, fun j u hu => by
    obtain ⟨b, off, e, hf, hc⟩ := h.cells j u hu
    obtain ⟨hf', e2⟩ := hf.kt hk ht
    exact ⟨b, off, e, hf', (cell_same e2).trans hc⟩⟩
theorem RwAt.below (h : RwAt lo base t k w A n xs) (hb : Below w.heap.size w w') : RwAt lo base t k w' A n xs := h.kt (T := []) (Kt.of_below hb) (by simp)
theorem RwAt.base_ {base' : Nat} (h : RwAt lo base t k w A n xs) (hb : base ≤ base') : RwAt lo base' t k w A n xs :=
  ⟨h.len, fun j u hu => by
    obtain ⟨b, off, e, ⟨h0, h1, h2⟩, hc⟩ := h.cells j u hu
    refine ⟨b, off, e, ⟨h0, h1, ?_⟩, hc⟩
    rcases h2 with h2 | h2
    · exact .inl (by omega)
    · exact .inr h2⟩
theorem RwAt.lo_ {lo' : Nat} (h : RwAt lo base t k w A n xs) (hb : lo' ≤ lo) : RwAt lo' base t k w A n xs :=
  ⟨h.len, fun j u hu => by
    obtain ⟨b, off, e, ⟨h0, h1, h2⟩, hc⟩ := h.cells j u hu
    exact ⟨b, off, e, ⟨Nat.le_trans hb h0, h1, h2⟩, hc⟩⟩
theorem RwAt.nil : RwAt lo base t k w A 0 [] := ⟨by simp, by simp⟩
theorem RwAt.of_own {c : Nat} (h : w.ownsRow lo t k (.slice A n c) n xs) : RwAt lo base t k w A n xs := by
  refine ⟨h.1, fun j u hu => ?_⟩
  rcases h.2 with ⟨h1, h2⟩ | ⟨g, cap, cur, h1, h2, hg, hnc, hcm, hcs, ht⟩
  · have := h.1
    subst h2
    have : xs = [] := List.eq_nil_of_length_eq_zero (by omega)
    subst this
    simp at hu
  · injection h1 with h1 _ _
    subst h1
    refine ⟨g, 0, rfl, ⟨h2, (h.lt g rfl).2, .inr ⟨cur, hg⟩⟩, ?_⟩
    have := h.cells (g := g) rfl j u hu
    rw [Addr.add_mid, Nat.zero_add] at this
    rwa [Nat.zero_add]
theorem RwAt.slc (h : RwAt lo base t k w A n xs) : SlC w w.heap.size A n k xs :=
  ⟨h.len, fun j u hu => by
    obtain ⟨b, off, e, hf, hc⟩ := h.cells j u hu
    exact ⟨_, e, hf.2.1, by rw [Addr.add_mid]; exact hc⟩⟩
theorem RwAt.sl (h : RwAt lo base t 1 w A n xs) : Sl w w.heap.size A n xs :=
  ⟨by have := h.len; omega, fun j u hu => by
    obtain ⟨b, off, e, hf, hc⟩ := h.cells j u hu
    exact ⟨_, e, hf.2.1, by rw [Addr.add_mid]; exact hc⟩⟩
/-- Where its elements lie. -/
theorem RwAt.at (h : RwAt lo base t k w A n xs) (hn : 0 < n) (hk : 0 < k) : ∃ b off, A = some ⟨b, off, none⟩ ∧ Fr lo base t w b ∧ ∀ j u, xs[j]? = some u → w.cell? ⟨b, off + j, none⟩ = some u := by
  have hp := Nat.mul_pos hn hk
  have hl := h.len
  obtain ⟨b, off, e, hf, -⟩ := h.cells 0 _ (List.getElem?_eq_getElem (by omega))
  refine ⟨b, off, e, hf, fun j u hu => ?_⟩
  obtain ⟨b', off', e', -, hc⟩ := h.cells j u hu
  rw [e] at e'
  injection e' with e'
  injection e' with e1 e2
  subst e1 e2
  exact hc
end
theorem flatten_getR {α : Type} {k : Nat} : ∀ (cs : List (List α)), (∀ x ∈ cs, x.length = k) → ∀ (i j : Nat), j < k → cs.flatten[i * k + j]? = cs[i]?.bind fun x => x[j]?
  | [], _, i, j, _ => by simp
  | x :: cs, h, i, j, hj => by
    have hx := h x (by simp)
    rw [List.flatten_cons]
    cases i with
    | zero => rw [List.getElem?_append_left (by rw [hx]; omega)]; simp
    | succ i =>
      rw [List.getElem?_append_right (by rw [hx, Nat.succ_mul]; omega), hx, show (i + 1) * k + j - k = i * k + j by rw [Nat.succ_mul]; omega, flatten_getR cs (fun y hy => h y (by simp [hy])) i j hj]
      simp
theorem rw_of_slk {w : World} {A : Option Addr} {k n : Nat} {rows : List (List Value)} {t : TypeId} (h : SlK w A k n rows) (hk : 0 < k) : RwAt 0 w.heap.size t k w A n rows.flatten := by
  have hlen : rows.flatten.length = n * k := by
    have h1 := h.len
    have h2 := h.row
    clear h
    subst h1
    induction rows with
    | nil => simp
    | cons r rows ih =>
      rw [List.flatten_cons, List.length_append, ih (fun i hi => by have := h2 (i + 1) (by simpa using hi); simpa using this)]
      have := h2 0 (by simp)
      simp at this
      rw [this, List.length_cons, Nat.succ_mul]; omega
  have hrow : ∀ x ∈ rows, x.length = k := fun x hx => by
    obtain ⟨i, hi, e⟩ := List.getElem_of_mem hx
    rw [← e]; exact h.row i hi
  refine ⟨hlen, fun j u hu => ?_⟩
  have hj := (List.getElem?_eq_some_iff.1 hu).1
  have hn : 0 < n := by
    rcases Nat.eq_zero_or_pos n with h0 | h0
    · subst h0; omega
    · exact h0
  obtain ⟨b, off, hA, hb, hc⟩ := SlK.at h hn hk
  have e : j = j / k * k + j % k := by rw [Nat.mul_comm]; exact (Nat.div_add_mod j k).symm
  have hm : j % k < k := Nat.mod_lt _ hk
  have hd : j / k < rows.length := by rw [h.len]; exact Nat.div_lt_of_lt_mul (by rw [Nat.mul_comm]; omega)
  have h3 := flatten_getR rows hrow (j / k) (j % k) hm
  rw [← e, hu, List.getElem?_eq_getElem hd, Option.bind_some] at h3
  refine ⟨b, off, hA, ⟨Nat.zero_le _, hb, .inl hb⟩, ?_⟩
  have := hc (j / k) hd (j % k) u h3.symm
  rwa [Nat.add_assoc, ← e] at this

/-- A slice of integers that stays. -/
abbrev IntsAt (lo base : Nat) (w : World) (A : Option Addr) (n : Nat) (l : List Int) : Prop := RwAt lo base 3 1 w A n (intC l)
theorem IntsAt.len {lo base n : Nat} {w : World} {A : Option Addr} {l : List Int} (h : IntsAt lo base w A n l) : l.length = n := by
  have := RwAt.len h
  rw [intC_len] at this
  omega
theorem ints_of_rdA {w : World} {m : Nat} {v : Value} (h : Rd Tryd.prog w (m + 2) 23 [v]) : ∃ A n c l, v = .slice A n c ∧ n ≤ c ∧ c ≤ 9223372036854775807 ∧ IntsAt 0 w.heap.size w A n l ∧ ∀ x ∈ l, -9223372036854775808 ≤ x ∧ x ≤ 9223372036854775807 := by
  obtain ⟨A, n, c, rows, rfl, hl, hm, hs, hr⟩ := slk_of_rd (n := m + 1) (k := 1) Tryd.underlying23 (by kernel_rfl) h
  obtain ⟨l, rfl, hw⟩ : ∃ l : List Int, rows = l.map (fun x => [Value.int .i64 x]) ∧ ∀ x ∈ l, -9223372036854775808 ≤ x ∧ x ≤ 9223372036854775807 := by
    clear hs hm hl h
    induction rows with
    | nil => exact ⟨[], rfl, by simp⟩
    | cons r rows ih =>
      obtain ⟨l, hl, hb⟩ := ih (fun x hx => hr x (by simp [hx]))
      obtain ⟨x, rfl, hx⟩ := rd_int Tryd.underlying3 (hr r (by simp))
      refine ⟨x :: l, by rw [hl]; rfl, fun y hy => ?_⟩
      rcases List.mem_cons.1 hy with rfl | hy
      · exact wf_bd_i64 hx
      · exact hb y hy
  have h5 := rw_of_slk (t := 3) hs (by decide)
  refine ⟨A, n, c, l, rfl, hl, hm, ?_, hw⟩
  have : (l.map fun x => [Value.int .i64 x]).flatten = intC l := by
    clear h5 hs hr h hw
    induction l with
    | nil => rfl
    | cons x l ih => rw [List.map_cons, List.flatten_cons, ih]; rfl
  rwa [this] at h5
end Go.Proofs.YtopjkpopdffkeaaDoor
