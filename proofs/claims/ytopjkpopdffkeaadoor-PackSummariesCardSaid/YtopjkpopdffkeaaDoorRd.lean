/- What an argument's reading says of the cells: one law for every type of integers, bools, texts, structs, arrays and slices. -/
import Derived.Test.YtopjkpopdffkeaaDoorMem
import Derived.ProofKit
import Derived.OpenShut
import Derived.Deep.Slices
set_option linter.unusedVariables false
set_option linter.unusedSimpArgs false
namespace Go.Proofs.YtopjkpopdffkeaaDoor
open Go.RowKit Go.WideShapes

/-- So the cells of a type read, to a depth. -/
def Rd (P : Program) (w : World) : Nat → TypeId → List Value → Prop
  | 0, _, _ => True
  | n + 1, t, cs =>
    match P.underlying t with
    | some (.struct fs) => cs.length = P.cellsOf t ∧ ∀ (j : Nat) (f : Field), fs[j]? = some f → Rd P w n f.type ((cs.drop f.offset).take (P.cellsOf f.type))
    | some (.array k e) => cs.length = P.cellsOf t ∧ ∀ i, i < k → Rd P w n e ((cs.drop (i * P.cellsOf e)).take (P.cellsOf e))
    | some (.int k) => ∃ m, cs = [.int k m] ∧ (Lit.int k m).wf = true
    | some .bool => ∃ b, cs = [.bool b]
    | some .string => ∃ s : ByteArray, cs = [.string s] ∧ s.size ≤ maxLen
    | some (.slice e) => cs = [.slice none 0 0] ∨ ∃ a len cap, cs = [.slice (some a) len cap] ∧ len ≤ cap ∧ cap ≤ maxLen ∧
        ∀ i, i < len → ∃ cs', cs'.length = P.cellsOf e ∧ (∀ j, j < P.cellsOf e → w.cell? (a.add (i * P.cellsOf e + j)) = cs'[j]?) ∧ Rd P w n e cs'
    | _ => True

section
variable {H : Type} {enc : TypeId × Value → H} {P : Program} {w : World} {base : Nat} {held : Bool}
theorem rd_of_trod (n : Nat) : ∀ {fuel : Nat} {t : TypeId} {cs : List Value} {x : DataW H × List MemPlace}, DataW.trod enc P w base (fun _ => true) held fuel t cs = some x → Rd P w n t cs := by
  induction n with
  | zero => intros; trivial
  | succ n ih =>
    intro fuel t cs x h
    unfold Rd
    split
    · rename_i fs ht
      obtain ⟨xs, m, _, _, hl, hxl, hf⟩ := DataW.trod_struct ht h
      refine ⟨hl, fun j f hj => ?_⟩
      have h1 := hf j f hj
      have hjl : j < xs.length := by rw [hxl]; exact (Array.getElem?_eq_some_iff.1 hj).1
      rw [List.getElem?_eq_getElem hjl] at h1
      exact ih h1
    · rename_i k e ht
      obtain ⟨xs, m, _, _, hl, hxl, hf⟩ := DataW.trod_array ht h
      refine ⟨hl, fun i hi => ?_⟩
      have h1 := hf i hi
      rw [List.getElem?_eq_getElem (show i < xs.length by omega)] at h1
      exact ih h1
    · rename_i k ht
      obtain ⟨m, hcs, _, hw⟩ := DataW.trod_int ht h
      exact ⟨m, hcs, hw⟩
    · rename_i ht
      obtain ⟨b, hcs, _⟩ := DataW.trod_bool ht h
      exact ⟨b, hcs⟩
    · rename_i ht
      obtain ⟨s, hcs, _, hs⟩ := DataW.trod_string ht h
      exact ⟨s, hcs, hs⟩
    · rename_i e ht
      rcases Go.Deep.open_slice ht h with ⟨h0, _⟩ | ⟨a, len, cap, m, n', D, Pl, hcs, _, hl, hm, hmm, _, hi⟩
      · exact .inl h0
      · refine .inr ⟨a, len, cap, hcs, hl, hm, fun i hil => ?_⟩
        simp only [if_true] at hmm
        obtain ⟨cs', hc, ht'⟩ := hi i (by omega)
        obtain ⟨_, hcl, hat⟩ := World.cells?_some hc
        exact ⟨cs', hcl, fun j hj => by rw [← hat j hj, addr_add2], ih ht'⟩
    · trivial

section
variable {P : Program} {w : World} {n : Nat} {t : TypeId} {cs : List Value}
theorem rd_int {k : IntKind} (ht : P.underlying t = some (.int k)) (h : Rd P w (n + 1) t cs) : ∃ m, cs = [.int k m] ∧ (Lit.int k m).wf = true := by
  unfold Rd at h; rw [ht] at h; exact h
theorem rd_bool (ht : P.underlying t = some .bool) (h : Rd P w (n + 1) t cs) : ∃ b, cs = [.bool b] := by
  unfold Rd at h; rw [ht] at h; exact h
theorem rd_array {k : Nat} {e : TypeId} (ht : P.underlying t = some (.array k e)) (h : Rd P w (n + 1) t cs) :
    cs.length = P.cellsOf t ∧ ∀ i, i < k → Rd P w n e ((cs.drop (i * P.cellsOf e)).take (P.cellsOf e)) := by
  unfold Rd at h; rw [ht] at h; exact h
theorem rd_len {fs : Array Field} (ht : P.underlying t = some (.struct fs)) (h : Rd P w (n + 1) t cs) : cs.length = P.cellsOf t := by
  unfold Rd at h; rw [ht] at h; exact h.1
theorem rd_field {fs : Array Field} (ht : P.underlying t = some (.struct fs)) (h : Rd P w (n + 1) t cs) (j : Nat) {u o : Nat} (hj : (fs[j]?).map (fun f => (f.type, f.offset)) = some (u, o)) {c : Nat} (hc : P.cellsOf u = c) :
    Rd P w n u ((cs.drop o).take c) := by
  unfold Rd at h; rw [ht] at h
  cases hf : fs[j]? with
  | none => rw [hf] at hj; cases hj
  | some f =>
    rw [hf] at hj
    simp only [Option.map_some, Option.some.injEq, Prod.mk.injEq] at hj
    have := h.2 j f hf
    rw [hj.1, hj.2, hc] at this
    exact this
theorem rd_slice {e : TypeId} (ht : P.underlying t = some (.slice e)) (h : Rd P w (n + 1) t cs) :
    cs = [.slice none 0 0] ∨ ∃ a len cap, cs = [.slice (some a) len cap] ∧ len ≤ cap ∧ cap ≤ maxLen ∧
        ∀ i, i < len → ∃ cs', cs'.length = P.cellsOf e ∧ (∀ j, j < P.cellsOf e → w.cell? (a.add (i * P.cellsOf e + j)) = cs'[j]?) ∧ Rd P w n e cs' := by
  unfold Rd at h; rw [ht] at h; exact h
theorem take_one {cs : List Value} {o : Nat} {c : Value} (h : cs[o]? = some c) : (cs.drop o).take 1 = [c] := by
  have hl : o < cs.length := (List.getElem?_eq_some_iff.1 h).1
  rw [List.drop_eq_getElem_cons hl]
  rw [List.getElem?_eq_getElem hl] at h
  injection h with h
  rw [h]; rfl
theorem rd_fld_int {fs : Array Field} {k : IntKind} (ht : P.underlying t = some (.struct fs)) (h : Rd P w (n + 2) t cs) (j : Nat) {u o : Nat} (hj : (fs[j]?).map (fun f => (f.type, f.offset)) = some (u, o)) (hc : P.cellsOf u = 1) (hu : P.underlying u = some (.int k))
    {c : Value} (hcs : cs[o]? = some c) : ∃ m, c = .int k m ∧ (Lit.int k m).wf = true := by
  have h1 := rd_field ht h j hj hc
  rw [take_one hcs] at h1
  obtain ⟨m, hm, hw⟩ := rd_int hu h1
  simp at hm
  exact ⟨m, hm, hw⟩
theorem rd_arr_int {k : Nat} {e : TypeId} {kd : IntKind} (ht : P.underlying t = some (.array k e)) (h : Rd P w (n + 2) t cs) (hc : P.cellsOf e = 1) (he : P.underlying e = some (.int kd)) (i : Nat) (hi : i < k)
    {c : Value} (hcs : cs[i]? = some c) : ∃ m, c = .int kd m ∧ (Lit.int kd m).wf = true := by
  have h1 := (rd_array ht h).2 i hi
  rw [hc, Nat.mul_one, take_one hcs] at h1
  obtain ⟨m, hm, hw⟩ := rd_int he h1
  simp at hm
  exact ⟨m, hm, hw⟩
end

/-- So an argument reads. -/
def Arg (P : Program) (w : World) (t : TypeId) (v : Value) : Prop :=
  match P.underlying t with
  | some (.struct _) | some (.array _ _) => ∃ cs, v = .agg cs ∧ Rd P w 10 t cs.toList
  | _ => Rd P w 10 t [v]
theorem arg_of {r : Reach} {b : Nat} {t : TypeId} {v : Value} {d : DataW H} {p : List MemPlace} (hv : Value.okWide P w r b t v) (h : DataW.Trod enc P w base (fun _ => true) held t v d p) : Arg P w t v := by
  obtain ⟨fuel, hf⟩ := h
  unfold Arg
  split
  · rename_i fs ht
    obtain ⟨cs, rfl, _⟩ := okWide_struct ht hv
    exact ⟨cs, rfl, rd_of_trod 10 hf⟩
  · rename_i k e ht
    simp only [Value.okWide, ht] at hv
    obtain ⟨cs, rfl, _⟩ := hv
    exact ⟨cs, rfl, rd_of_trod 10 hf⟩
  · rename_i h1 h2
    have hc : v.cells.toList = [v] := by
      cases v with
      | agg cs =>
        exfalso
        unfold Value.okWide at hv
        split at hv
        · rename_i fs hs; exact h1 _ hs
        · rename_i k e hs; exact h2 _ _ hs
        · unfold Cell.okWide at hv
          split at hv <;> first | (simp_all; done) | skip
          unfold Cell.ok at hv
          split at hv <;> simp_all
      | _ => rfl
    rw [hc] at hf
    exact rd_of_trod 10 hf
end

theorem arg_one {P : Program} {w : World} {t : TypeId} {v : Value} (h : Arg P w t v) {d : TypeDesc} (ht : P.underlying t = some d) (hs : ∀ fs, d ≠ .struct fs) (ha : ∀ k e, d ≠ .array k e) : Rd P w 10 t [v] := by
  unfold Arg at h
  split at h
  · rename_i fs hf; rw [ht] at hf; exact absurd (Option.some.inj hf) (hs _)
  · rename_i k e hf; rw [ht] at hf; exact absurd (Option.some.inj hf) (ha _ _)
  · exact h
theorem arg_agg {P : Program} {w : World} {t : TypeId} {v : Value} (h : Arg P w t v) (ht : (∃ fs, P.underlying t = some (.struct fs)) ∨ ∃ k e, P.underlying t = some (.array k e)) : ∃ cs : Array Value, v = .agg cs ∧ Rd P w 10 t cs.toList := by
  unfold Arg at h
  rcases ht with ⟨fs, ht⟩ | ⟨k, e, ht⟩ <;> rw [ht] at h <;> exact h
theorem list_of {α : Type} {Q : Nat → α → Prop} (n : Nat) (h : ∀ i, i < n → ∃ r, Q i r) : ∃ rs : List α, rs.length = n ∧ ∀ i (hi : i < rs.length), Q i rs[i] := by
  induction n with
  | zero => exact ⟨[], rfl, fun i hi => absurd hi (by simp)⟩
  | succ n ih =>
    obtain ⟨rs, hl, hq⟩ := ih (fun i hi => h i (by omega))
    obtain ⟨r, hr⟩ := h n (by omega)
    refine ⟨rs ++ [r], by simp [hl], fun i hi => ?_⟩
    by_cases hin : i < rs.length
    · rw [List.getElem_append_left hin]; exact hq i hin
    · have : i = n := by simp at hi; omega
      subst this
      rw [List.getElem_append_right (by omega)]
      simpa [hl] using hr
theorem cell_lt {w : World} {a : Addr} {v : Value} (h : w.cell? a = some v) : a.block < w.heap.size := by
  rcases Nat.lt_or_ge a.block w.heap.size with hh | hh
  · exact hh
  · exfalso
    unfold World.cell? at h
    rw [Array.getElem?_eq_none hh] at h
    cases h

/-- A slice of bytes that came in. -/
theorem by_of_rd {P : Program} {w : World} {n : Nat} {t e : TypeId} {v : Value} (ht : P.underlying t = some (.slice e)) (he : P.underlying e = some (.int .u8)) (hc : P.cellsOf e = 1) (h : Rd P w (n + 2) t [v]) :
    ∃ A len cap l, v = .slice A len cap ∧ len ≤ cap ∧ cap ≤ 9223372036854775807 ∧ By w w.heap.size A len l := by
  unfold Rd at h
  rw [ht] at h
  rcases h with h | ⟨a, len, cap, h, hl, hm, hi⟩
  · simp only [List.cons.injEq, and_true] at h
    exact ⟨none, 0, 0, [], h, Nat.le_refl _, by omega, Sl.nil_⟩
  · simp only [List.cons.injEq, and_true] at h
    rw [hc] at hi
    have hcell : ∀ i, i < len → ∃ m : Int, 0 ≤ m ∧ m < 256 ∧ w.cell? (a.add i) = some (.int .u8 m) := by
      intro i hil
      obtain ⟨cs', hcl, hat, hr⟩ := hi i hil
      unfold Rd at hr
      rw [he] at hr
      obtain ⟨m, rfl, hwf⟩ := hr
      have := hat 0 (by omega)
      simp [Lit.wf, IntKind.min, IntKind.max, IntKind.signed, IntKind.bits] at hwf
      exact ⟨m, by omega, by omega, by simpa using this⟩
    refine ⟨some a, len, cap, (List.range len).map fun i => match w.cell? (a.add i) with | some (.int .u8 m) => UInt8.ofNat m.toNat | _ => 0, h, hl, by simpa [maxLen] using hm, by simp [u8s], fun j u hu => ?_⟩
    rw [u8s_get, List.getElem?_map] at hu
    by_cases hj : j < len
    · rw [List.getElem?_range hj] at hu
      obtain ⟨m, h0, h1, h2⟩ := hcell j hj
      simp only [Option.map_some, h2, Option.some.injEq] at hu
      have hlt : a.block < w.heap.size := by
        rcases Nat.lt_or_ge a.block w.heap.size with hh | hh
        · exact hh
        · exfalso
          unfold World.cell? at h2
          rw [addr_block, Array.getElem?_eq_none hh] at h2
          cases h2
      refine ⟨a, rfl, hlt, ?_⟩
      rw [h2, ← hu, UInt8.toNat_ofNat']
      congr 2
      omega
    · rw [List.getElem?_eq_none (by simp; omega)] at hu
      cases hu
/-- The bounds of an integer that fits its kind. -/
theorem wf_bd_i64 {n : Int} (h : (Lit.int .i64 n).wf = true) : -9223372036854775808 ≤ n ∧ n ≤ 9223372036854775807 := by
  simp [Lit.wf, IntKind.min, IntKind.max, IntKind.signed, IntKind.bits] at h; omega
theorem wf_bd_u32 {n : Int} (h : (Lit.int .u32 n).wf = true) : ∃ k : Nat, n = (k : Int) ∧ k < 4294967296 := by
  simp [Lit.wf, IntKind.min, IntKind.max, IntKind.signed, IntKind.bits] at h
  exact ⟨n.toNat, by omega, by omega⟩
theorem wf_bd_u8 {n : Int} (h : (Lit.int .u8 n).wf = true) : ∃ k : Nat, n = (k : Int) ∧ k < 256 := by
  simp [Lit.wf, IntKind.min, IntKind.max, IntKind.signed, IntKind.bits] at h
  exact ⟨n.toNat, by omega, by omega⟩
end Go.Proofs.YtopjkpopdffkeaaDoor
