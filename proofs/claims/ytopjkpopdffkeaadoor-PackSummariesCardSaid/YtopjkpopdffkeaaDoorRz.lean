/- What an argument's reading says of the cells, with the form's own reach: each slice and text takes at most 140737488351232 bytes. -/
import Derived.Test.YtopjkpopdffkeaaDoorRdMore
import Derived.SizedLaws
set_option linter.unusedVariables false
set_option linter.unusedSimpArgs false
namespace Go.Proofs.YtopjkpopdffkeaaDoor
open Go.RowKit Go.WideShapes

def Rz (P : Program) (w : World) : Nat → TypeId → List Value → Prop
  | 0, _, _ => True
  | n + 1, t, cs =>
    match P.underlying t with
    | some (.struct fs) => cs.length = P.cellsOf t ∧ ∀ (j : Nat) (f : Field), fs[j]? = some f → Rz P w n f.type ((cs.drop f.offset).take (P.cellsOf f.type))
    | some (.array k e) => cs.length = P.cellsOf t ∧ ∀ i, i < k → Rz P w n e ((cs.drop (i * P.cellsOf e)).take (P.cellsOf e))
    | some (.int k) => ∃ m, cs = [.int k m] ∧ (Lit.int k m).wf = true
    | some .bool => ∃ b, cs = [.bool b]
    | some .string => ∃ s : ByteArray, cs = [.string s] ∧ s.size ≤ 140737488351232
    | some (.slice e) => cs = [.slice none 0 0] ∨ ∃ a len cap, cs = [.slice (some a) len cap] ∧ len ≤ cap ∧ cap ≤ maxLen ∧ cap * P.bytesOf e ≤ 140737488351232 ∧
        ∀ i, i < len → ∃ cs', cs'.length = P.cellsOf e ∧ (∀ j, j < P.cellsOf e → w.cell? (a.add (i * P.cellsOf e + j)) = cs'[j]?) ∧ Rz P w n e cs'
    | _ => True

theorem Rz.rd {P : Program} {w : World} : ∀ {n : Nat} {t : TypeId} {cs : List Value}, Rz P w n t cs → Rd P w n t cs
  | 0, _, _, _ => trivial
  | n + 1, t, cs, h => by
    unfold Rz at h
    unfold Rd
    split at h
    · rename_i fs ht
      simp only [ht]
      exact ⟨h.1, fun j f hj => (h.2 j f hj).rd⟩
    · rename_i k e ht
      simp only [ht]
      exact ⟨h.1, fun i hi => (h.2 i hi).rd⟩
    · rename_i k ht
      simp only [ht]
      exact h
    · rename_i ht
      simp only [ht]
      exact h
    · rename_i ht
      simp only [ht]
      obtain ⟨s, h1, h2⟩ := h
      exact ⟨s, h1, by simp only [maxLen]; omega⟩
    · rename_i e ht
      simp only [ht]
      rcases h with h | ⟨a, len, cap, h1, h2, h3, _, h4⟩
      · exact .inl h
      · refine .inr ⟨a, len, cap, h1, h2, h3, fun i hi => ?_⟩
        obtain ⟨cs', c1, c2, c3⟩ := h4 i hi
        exact ⟨cs', c1, c2, c3.rd⟩
    · split <;> first | trivial | (exfalso; simp_all)

theorem weightsAll_mem {H : Type} {P : Program} {e : TypeId} : ∀ {ds : List (DataW H)} {i : Nat} {d : DataW H}, ds[i]? = some d → ∀ n ∈ d.weights P e, n ∈ DataW.weightsAll P e ds
  | d0 :: ds, 0, d, hd, n, hn => by
    simp only [List.getElem?_cons_zero, Option.some.injEq] at hd
    subst hd
    simp only [DataW.weightsAll, List.mem_append]
    exact Or.inl hn
  | d0 :: ds, j + 1, d, hd, n, hn => by
    simp only [List.getElem?_cons_succ] at hd
    simp only [DataW.weightsAll, List.mem_append]
    exact Or.inr (weightsAll_mem hd n hn)
  | [], _, _, hd, _, _ => by simp at hd

section
variable {H : Type} {enc : TypeId × Value → H} {P : Program} {w : World} {base : Nat} {held : Bool}
theorem rz_of_trod (n : Nat) : ∀ {fuel : Nat} {t : TypeId} {cs : List Value} {x : DataW H × List MemPlace}, DataW.trod enc P w base (fun _ => true) held fuel t cs = some x → (∀ n ∈ x.1.weights P t, n ≤ 140737488351232) → Rz P w n t cs := by
  induction n with
  | zero => intros; trivial
  | succ n ih =>
    intro fuel t cs x h hw
    unfold Rz
    split
    · rename_i fs ht
      obtain ⟨xs, m, _, rfl, hl, hxl, hf⟩ := DataW.trod_struct ht h
      refine ⟨hl, fun j f hj => ?_⟩
      have h1 := hf j f hj
      have hjl : j < xs.length := by rw [hxl]; exact (Array.getElem?_eq_some_iff.1 hj).1
      rw [List.getElem?_eq_getElem hjl] at h1
      refine ih h1 fun k hk => hw k ?_
      simp only [DataW.weights, ht]
      exact DataW.weights_mem_each (j := j) (t := f.type) (d := (xs[j]).1) (by rw [List.getElem?_map, Array.getElem?_toList, hj]; rfl) (by rw [List.getElem?_map, List.getElem?_eq_getElem hjl]; rfl) k hk
    · rename_i k e ht
      obtain ⟨xs, m, _, rfl, hl, hxl, hf⟩ := DataW.trod_array ht h
      refine ⟨hl, fun i hi => ?_⟩
      have h1 := hf i hi
      rw [List.getElem?_eq_getElem (show i < xs.length by omega)] at h1
      refine ih h1 fun k hk => hw k ?_
      simp only [DataW.weights, ht]
      exact weightsAll_mem (i := i) (d := (xs[i]).1) (by rw [List.getElem?_map, List.getElem?_eq_getElem (show i < xs.length by omega)]; rfl) k hk
    · rename_i k ht
      obtain ⟨m, hcs, _, hw⟩ := DataW.trod_int ht h
      exact ⟨m, hcs, hw⟩
    · rename_i ht
      obtain ⟨b, hcs, _⟩ := DataW.trod_bool ht h
      exact ⟨b, hcs⟩
    · rename_i ht
      obtain ⟨s, hcs, rfl, hs⟩ := DataW.trod_string ht h
      exact ⟨s, hcs, by have := hw s.data.toList.length (by simp [DataW.weights]); simpa using this⟩
    · rename_i e ht
      rcases Go.Deep.open_slice ht h with ⟨h0, _⟩ | ⟨a, len, cap, m, n', D, Pl, hcs, _, hl, hm, hmm, rfl, hi⟩
      · exact .inl h0
      · simp only [if_true] at hmm
        subst hmm
        refine .inr ⟨a, len, m, hcs, hl, hm, ?_, fun i hil => ?_⟩
        · have := hw (m * P.bytesOf e) (by simp [DataW.weights, ht, Nat.add_sub_cancel' hl])
          exact this
        · obtain ⟨cs', hc, ht'⟩ := hi i (by omega)
          obtain ⟨_, hcl, hat⟩ := World.cells?_some hc
          refine ⟨cs', hcl, fun j hj => by rw [← hat j hj, addr_add2], ih ht' fun k hk => hw k ?_⟩
          simp only [DataW.weights, ht, List.mem_cons, List.mem_append]
          exact .inr (.inl (weightsAll_mem (i := i) (d := D i) (by simp [hil]) k hk))
    · trivial
end

/-- So an argument reads. -/
def ArgZ (P : Program) (w : World) (t : TypeId) (v : Value) : Prop :=
  match P.underlying t with
  | some (.struct _) | some (.array _ _) => ∃ cs, v = .agg cs ∧ Rz P w 10 t cs.toList
  | _ => Rz P w 10 t [v]
theorem argz_of {H : Type} {enc : TypeId × Value → H} {P : Program} {w : World} {base : Nat} {held : Bool} {r : Reach} {b : Nat} {t : TypeId} {v : Value} {d : DataW H} {p : List MemPlace} (hv : Value.okWide P w r b t v) (h : DataW.Trod enc P w base (fun _ => true) held t v d p)
    (hw : ∀ n ∈ d.weights P t, n ≤ 140737488351232) : ArgZ P w t v := by
  obtain ⟨fuel, hf⟩ := h
  unfold ArgZ
  split
  · rename_i fs ht
    obtain ⟨cs, rfl, _⟩ := okWide_struct ht hv
    exact ⟨cs, rfl, rz_of_trod 10 hf hw⟩
  · rename_i k e ht
    simp only [Value.okWide, ht] at hv
    obtain ⟨cs, rfl, _⟩ := hv
    exact ⟨cs, rfl, rz_of_trod 10 hf hw⟩
  · rename_i h1 h2
    have hc : v.cells.toList = [v] := by
      cases v with
      | agg cs =>
        exfalso
        unfold Value.okWide at hv
        split at hv
        · rename_i fs hs; exact h1 _ hs
        · rename_i k e hs; exact h2 _ _ hs
        · unfold Cell.okWide at hv
          split at hv <;> first | (simp_all; done) | skip
          unfold Cell.ok at hv
          split at hv <;> simp_all
      | _ => rfl
    rw [hc] at hf
    exact rz_of_trod 10 hf hw
theorem sized_arg {H : Type} {P : Program} {ts : List TypeId} {ds : List (DataW H)} (h : (DataW.weightsEach P ts ds).all (· ≤ reachBytes) = true) (j : Nat) {t : TypeId} {d : DataW H} (ht : ts[j]? = some t) (hd : ds[j]? = some d) : ∀ n ∈ d.weights P t, n ≤ 140737488351232 := fun n hn => by
  have := List.all_eq_true.1 h n (DataW.weights_mem_each ht hd n hn)
  have := of_decide_eq_true this
  simp only [reachBytes] at this
  exact this

section
variable {P : Program} {w : World} {n : Nat} {t : TypeId} {cs : List Value}
theorem argz_one {v : Value} (h : ArgZ P w t v) {d : TypeDesc} (ht : P.underlying t = some d) (hs : ∀ fs, d ≠ .struct fs) (ha : ∀ k e, d ≠ .array k e) : Rz P w 10 t [v] := by
  unfold ArgZ at h
  split at h
  · rename_i fs hf; rw [ht] at hf; exact absurd (Option.some.inj hf) (hs _)
  · rename_i k e hf; rw [ht] at hf; exact absurd (Option.some.inj hf) (ha _ _)
  · exact h
theorem argz_agg {v : Value} (h : ArgZ P w t v) (ht : (∃ fs, P.underlying t = some (.struct fs)) ∨ ∃ k e, P.underlying t = some (.array k e)) : ∃ cs : Array Value, v = .agg cs ∧ Rz P w 10 t cs.toList := by
  unfold ArgZ at h
  rcases ht with ⟨fs, ht⟩ | ⟨k, e, ht⟩ <;> rw [ht] at h <;> exact h
theorem ArgZ.arg {v : Value} (h : ArgZ P w t v) : Arg P w t v := by
  unfold ArgZ at h
  unfold Arg
  split at h
  · rename_i ht; simp only [ht]; obtain ⟨cs, h1, h2⟩ := h; exact ⟨cs, h1, h2.rd⟩
  · rename_i ht; simp only [ht]; obtain ⟨cs, h1, h2⟩ := h; exact ⟨cs, h1, h2.rd⟩
  · split
    · exfalso; simp_all
    · exfalso; simp_all
    · exact h.rd
theorem rz_slice {e : TypeId} (ht : P.underlying t = some (.slice e)) (h : Rz P w (n + 1) t cs) :
    cs = [.slice none 0 0] ∨ ∃ a len cap, cs = [.slice (some a) len cap] ∧ len ≤ cap ∧ cap ≤ maxLen ∧ cap * P.bytesOf e ≤ 140737488351232 ∧
        ∀ i, i < len → ∃ cs', cs'.length = P.cellsOf e ∧ (∀ j, j < P.cellsOf e → w.cell? (a.add (i * P.cellsOf e + j)) = cs'[j]?) ∧ Rz P w n e cs' := by
  unfold Rz at h; rw [ht] at h; exact h
theorem rz_cap {e : TypeId} {A : Option Addr} {len cap : Nat} (ht : P.underlying t = some (.slice e)) (h : Rz P w (n + 1) t [.slice A len cap]) : cap * P.bytesOf e ≤ 140737488351232 := by
  rcases rz_slice ht h with h | ⟨a, l, c, h, _, _, hb, _⟩
  · simp at h; obtain ⟨_, _, rfl⟩ := h; omega
  · simp at h; obtain ⟨_, _, rfl⟩ := h; exact hb
theorem rz_len {fs : Array Field} (ht : P.underlying t = some (.struct fs)) (h : Rz P w (n + 1) t cs) : cs.length = P.cellsOf t := by
  unfold Rz at h; rw [ht] at h; exact h.1
theorem rz_field {fs : Array Field} (ht : P.underlying t = some (.struct fs)) (h : Rz P w (n + 1) t cs) (j : Nat) {u o : Nat} (hj : (fs[j]?).map (fun f => (f.type, f.offset)) = some (u, o)) {c : Nat} (hc : P.cellsOf u = c) :
    Rz P w n u ((cs.drop o).take c) := by
  unfold Rz at h; rw [ht] at h
  cases hf : fs[j]? with
  | none => rw [hf] at hj; cases hj
  | some f =>
    rw [hf] at hj
    simp only [Option.map_some, Option.some.injEq, Prod.mk.injEq] at hj
    have := h.2 j f hf
    rw [hj.1, hj.2, hc] at this
    exact this
/-- A field of one cell. -/
theorem rz_fld {fs : Array Field} (ht : P.underlying t = some (.struct fs)) (h : Rz P w (n + 1) t cs) (j : Nat) {u o : Nat} (hj : (fs[j]?).map (fun f => (f.type, f.offset)) = some (u, o)) (hc : P.cellsOf u = 1) {c : Value} (hcs : cs[o]? = some c) : Rz P w n u [c] := by
  have h1 := rz_field ht h j hj hc
  rwa [take_one hcs] at h1
theorem rz_array {k : Nat} {e : TypeId} (ht : P.underlying t = some (.array k e)) (h : Rz P w (n + 1) t cs) :
    cs.length = P.cellsOf t ∧ ∀ i, i < k → Rz P w n e ((cs.drop (i * P.cellsOf e)).take (P.cellsOf e)) := by
  unfold Rz at h; rw [ht] at h; exact h
/-- A slice of bytes that came in, with its reach. -/
theorem by_of_rz {e : TypeId} {v : Value} (ht : P.underlying t = some (.slice e)) (he : P.underlying e = some (.int .u8)) (hc : P.cellsOf e = 1) (hb : P.bytesOf e = 1) (h : Rz P w (n + 2) t [v]) :
    ∃ A len cap l, v = .slice A len cap ∧ len ≤ cap ∧ cap ≤ 140737488351232 ∧ By w w.heap.size A len l := by
  obtain ⟨A, len, cap, l, rfl, h1, -, h3⟩ := by_of_rd ht he hc h.rd
  have := rz_cap ht h
  exact ⟨A, len, cap, l, rfl, h1, by rw [hb] at this; omega, h3⟩
theorem bools_of_rz {e : TypeId} {v : Value} (ht : P.underlying t = some (.slice e)) (he : P.underlying e = some .bool) (hc : P.cellsOf e = 1) (hb : P.bytesOf e = 1) (h : Rz P w (n + 2) t [v]) :
    ∃ (A : Option Addr) (len cap : Nat) (l : List Bool), v = .slice A len cap ∧ len ≤ cap ∧ cap ≤ 140737488351232 ∧ Sl w w.heap.size A len (l.map Value.bool) := by
  obtain ⟨A, len, cap, l, rfl, h1, -, h3⟩ := bools_of_rd ht he hc h.rd
  have := rz_cap ht h
  exact ⟨A, len, cap, l, rfl, h1, by rw [hb] at this; omega, h3⟩
theorem ints_of_rz {e : TypeId} {k : IntKind} {v : Value} (ht : P.underlying t = some (.slice e)) (he : P.underlying e = some (.int k)) (hc : P.cellsOf e = 1) {b : Nat} (hb : P.bytesOf e = b) (h : Rz P w (n + 2) t [v]) :
    ∃ (A : Option Addr) (len cap : Nat) (l : List Int), v = .slice A len cap ∧ len ≤ cap ∧ cap * b ≤ 140737488351232 ∧ Sl w w.heap.size A len (l.map (Value.int k)) ∧ ∀ x ∈ l, (Lit.int k x).wf = true := by
  obtain ⟨A, len, cap, l, rfl, h1, -, h3, h4⟩ := ints_of_rd ht he hc h.rd
  have := rz_cap ht h
  exact ⟨A, len, cap, l, rfl, h1, by rw [hb] at this; omega, h3, h4⟩
theorem slk_of_rz {k : Nat} {e : TypeId} {v : Value} (ht : P.underlying t = some (.slice e)) (hc : P.cellsOf e = k) (h : Rz P w (n + 1) t [v]) :
    ∃ A len cap rows, v = .slice A len cap ∧ len ≤ cap ∧ cap ≤ 9223372036854775807 ∧ cap * P.bytesOf e ≤ 140737488351232 ∧ SlK w A k len rows ∧ ∀ r ∈ rows, Rz P w n e r := by
  rcases rz_slice ht h with h | ⟨a, len, cap, h, hl, hm, hb, hi⟩
  · simp only [List.cons.injEq, and_true] at h
    exact ⟨none, 0, 0, [], h, Nat.le_refl _, by omega, by omega, ⟨rfl, by simp, by simp⟩, by simp⟩
  · simp only [List.cons.injEq, and_true] at h
    rw [hc] at hi
    obtain ⟨rs, hrl, hr⟩ := list_of (Q := fun i (cs' : List Value) => cs'.length = k ∧ (∀ j, j < k → w.cell? (a.add (i * k + j)) = cs'[j]?) ∧ Rz P w n e cs') len hi
    refine ⟨some a, len, cap, rs, h, hl, by simpa [maxLen] using hm, hb, ⟨hrl, fun i hi => (hr i hi).1, fun i j u hi hu => ?_⟩, fun x hx => ?_⟩
    · rw [List.getElem?_eq_getElem hi, Option.bind_some] at hu
      have hj : j < k := by have := (List.getElem?_eq_some_iff.1 hu).1; rwa [(hr i hi).1] at this
      exact ⟨a, rfl, by rw [(hr i hi).2.1 j hj, hu]⟩
    · obtain ⟨j, hj, rfl⟩ := List.getElem_of_mem hx
      exact (hr j hj).2.2
theorem rz_int {k : IntKind} (ht : P.underlying t = some (.int k)) (h : Rz P w (n + 1) t cs) : ∃ m, cs = [.int k m] ∧ (Lit.int k m).wf = true := by
  unfold Rz at h; rw [ht] at h; exact h
theorem rz_bool (ht : P.underlying t = some .bool) (h : Rz P w (n + 1) t cs) : ∃ b, cs = [.bool b] := by
  unfold Rz at h; rw [ht] at h; exact h
theorem rz_i64 {v : Value} (ht : P.underlying t = some (.int .i64)) (h : Rz P w (n + 1) t [v]) : ∃ m, v = .int .i64 m ∧ -9223372036854775808 ≤ m ∧ m ≤ 9223372036854775807 := by
  obtain ⟨m, hm, hw⟩ := rz_int ht h
  simp only [List.cons.injEq, and_true] at hm
  have := wf_bd_i64 hw
  exact ⟨m, hm, this.1, this.2⟩
end
theorem int_argz {P : Program} {w : World} {t : TypeId} {v : Value} (ht : P.underlying t = some (.int .i64)) (h : ArgZ P w t v) : ∃ n, v = .int .i64 n ∧ -9223372036854775808 ≤ n ∧ n ≤ 9223372036854775807 :=
  int_arg ht h.arg
end Go.Proofs.YtopjkpopdffkeaaDoor
