/- What is told of files, as it lies in memory: a number, a version, a list of blocks. -/
import Derived.Test.YtopjkpopdffkeaaDoorRwAt
set_option linter.unusedVariables false
set_option linter.unusedSimpArgs false
namespace Go.Proofs.YtopjkpopdffkeaaDoor
open Go.RowKit

structure FI where
  ino : Int
  ver : Int
  ls : List Int
deriving DecidableEq
/-- The cells of one of them. -/
def fiV (f : FI) (A : Option Addr) (c : Nat) : List Value := [.int .i64 f.ino, .int .i64 f.ver, .slice A f.ls.length c]
def FiC (lo base : Nat) (w : World) (x : List Value) (f : FI) : Prop := ∃ A c, x = fiV f A c ∧ IntsAt lo base w A f.ls.length f.ls
/-- A slice of them. -/
def FisAt (lo base : Nat) (w : World) (A : Option Addr) (n : Nat) (fs : List FI) : Prop :=
  ∃ cs : List (List Value), fs.length = n ∧ cs.length = n ∧ RwAt lo base 28 3 w A n cs.flatten ∧ ∀ (j : Nat) (x : List Value) (f : FI), cs[j]? = some x → fs[j]? = some f → FiC lo base w x f
section
variable {lo base n : Nat} {w w' : World} {A : Option Addr} {fs : List FI} {T : List TypeId}
theorem FiC.kt {x : List Value} {f : FI} (h : FiC lo base w x f) (hk : Kt T base w w') (hT : 3 ∉ T) : FiC lo base w' x f := by
  obtain ⟨A, c, e, h1⟩ := h
  exact ⟨A, c, e, RwAt.kt h1 hk hT⟩
theorem FisAt.kt (h : FisAt lo base w A n fs) (hk : Kt T base w w') (hT : 3 ∉ T) (hF : 28 ∉ T) : FisAt lo base w' A n fs := by
  obtain ⟨cs, h1, h2, h3, h4⟩ := h
  exact ⟨cs, h1, h2, h3.kt hk hF, fun j x f hx hf => (h4 j x f hx hf).kt hk hT⟩
theorem FisAt.below (h : FisAt lo base w A n fs) (hb : Below w.heap.size w w') : FisAt lo base w' A n fs := h.kt (T := []) (Kt.of_below hb) (by simp) (by simp)
theorem FiC.base_ {base' : Nat} {x : List Value} {f : FI} (h : FiC lo base w x f) (hb : base ≤ base') : FiC lo base' w x f := by
  obtain ⟨A, c, e, h1⟩ := h
  exact ⟨A, c, e, RwAt.base_ h1 hb⟩
theorem FisAt.base_ {base' : Nat} (h : FisAt lo base w A n fs) (hb : base ≤ base') : FisAt lo base' w A n fs := by
  obtain ⟨cs, h1, h2, h3, h4⟩ := h
  exact ⟨cs, h1, h2, h3.base_ hb, fun j x f hx hf => (h4 j x f hx hf).base_ hb⟩
theorem FiC.lo_ {lo' : Nat} {x : List Value} {f : FI} (h : FiC lo base w x f) (hb : lo' ≤ lo) : FiC lo' base w x f := by
  obtain ⟨A, c, e, h1⟩ := h
  exact ⟨A, c, e, RwAt.lo_ h1 hb⟩
theorem FisAt.lo_ {lo' : Nat} (h : FisAt lo base w A n fs) (hb : lo' ≤ lo) : FisAt lo' base w A n fs := by
  obtain ⟨cs, h1, h2, h3, h4⟩ := h
  exact ⟨cs, h1, h2, h3.lo_ hb, fun j x f hx hf => (h4 j x f hx hf).lo_ hb⟩
theorem FisAt.len (h : FisAt lo base w A n fs) : fs.length = n := by obtain ⟨cs, h1, -⟩ := h; exact h1
theorem FisAt.nil : FisAt lo base w A 0 [] := ⟨[], rfl, rfl, RwAt.nil, by simp⟩
theorem FiC.one {x : List Value} {f : FI} (h : FiC lo base w x f) : x.length = 3 ∧ ∀ u ∈ x, u.oneCell' = true := by
  obtain ⟨A1, c1, rfl, -⟩ := h
  refine ⟨rfl, fun u hu => ?_⟩
  simp only [fiV, List.mem_cons, List.not_mem_nil, or_false] at hu
  rcases hu with rfl | rfl | rfl <;> rfl
theorem fis_cells {cs : List (List Value)} (hl : fs.length = cs.length) (h : ∀ (j : Nat) (x : List Value) (f : FI), cs[j]? = some x → fs[j]? = some f → FiC lo base w x f) : (∀ x ∈ cs, x.length = 3) ∧ ∀ u ∈ cs.flatten, u.oneCell' = true := by
  have hx : ∀ x ∈ cs, ∃ f, FiC lo base w x f := fun x hx => by
    obtain ⟨j, hj, e⟩ := List.getElem_of_mem hx
    exact ⟨fs[j]'(by omega), h j x _ (by rw [List.getElem?_eq_getElem hj, e]) (List.getElem?_eq_getElem (by omega))⟩
  refine ⟨fun x h => by obtain ⟨f, hf⟩ := hx x h; exact hf.one.1, fun u hu => ?_⟩
  obtain ⟨x, hxm, hux⟩ := List.mem_flatten.1 hu
  obtain ⟨f, hf⟩ := hx x hxm
  exact hf.one.2 u hux
/-- One of them. -/
theorem FisAt.at (h : FisAt lo base w A n fs) {j : Nat} (hj : j < n) : ∃ b off f A1 c1, A = some ⟨b, off, none⟩ ∧ Fr lo base 28 w b ∧ fs[j]? = some f ∧ IntsAt lo base w A1 f.ls.length f.ls ∧
    w.cell? ⟨b, off + j * 3, none⟩ = some (.int .i64 f.ino) ∧ w.cell? ⟨b, off + j * 3 + 1, none⟩ = some (.int .i64 f.ver) ∧ w.cell? ⟨b, off + j * 3 + 2, none⟩ = some (.slice A1 f.ls.length c1) := by
  obtain ⟨cs, h1, h2, h3, h4⟩ := h
  have hf : fs[j]? = some (fs[j]'(by omega)) := List.getElem?_eq_getElem _
  have hx : cs[j]? = some (cs[j]'(by omega)) := List.getElem?_eq_getElem _
  obtain ⟨A1, c1, e, r1⟩ := h4 j _ _ hx hf
  obtain ⟨k1, -⟩ := fis_cells (by omega) h4
  obtain ⟨b, off, hA, hF, hc⟩ := h3.at (by omega) (by decide)
  have hg : ∀ k u, k < 3 → (fiV fs[j] A1 c1)[k]? = some u → w.cell? ⟨b, off + j * 3 + k, none⟩ = some u := fun k u hk hu => by
    have h5 := flatten_getR cs k1 j k hk
    rw [hx, Option.bind_some, e, hu] at h5
    have := hc _ u h5
    rwa [← Nat.add_assoc] at this
  exact ⟨b, off, _, A1, c1, hA, hF, hf, r1, hg 0 _ (by decide) rfl, hg 1 _ (by decide) rfl, hg 2 _ (by decide) rfl⟩
end
set_option maxRecDepth 100000 in
/-- The files that came in. -/
theorem fis_of_rd {w : World} {v : Value} (h : Rd Tryd.prog w 10 22 [v]) : ∃ A n c fs, v = .slice A n c ∧ n ≤ c ∧ c ≤ 9223372036854775807 ∧ FisAt 0 w.heap.size w A n fs ∧
    ∀ f ∈ fs, (-9223372036854775808 ≤ f.ino ∧ f.ino ≤ 9223372036854775807) ∧ (-9223372036854775808 ≤ f.ver ∧ f.ver ≤ 9223372036854775807) ∧ (∀ x ∈ f.ls, -9223372036854775808 ≤ x ∧ x ≤ 9223372036854775807) ∧ f.ls.length ≤ 9223372036854775807 := by
  obtain ⟨A, n, c, rows, rfl, hl, hm, hs, hr⟩ := slk_of_rd (n := 9) (k := 3) Tryd.underlying22 (by kernel_rfl) h
  have hrow := hs.row
  obtain ⟨fs, hfl, hfs⟩ := list_of (Q := fun j (f : FI) => (∃ x, rows[j]? = some x ∧ FiC 0 w.heap.size w x f) ∧ (-9223372036854775808 ≤ f.ino ∧ f.ino ≤ 9223372036854775807) ∧ (-9223372036854775808 ≤ f.ver ∧ f.ver ≤ 9223372036854775807) ∧ (∀ x ∈ f.ls, -9223372036854775808 ≤ x ∧ x ≤ 9223372036854775807) ∧ f.ls.length ≤ 9223372036854775807) n (fun j hj => by
    have hjr : j < rows.length := by rw [hs.len]; exact hj
    have hg : rows[j]? = some (rows[j]'hjr) := List.getElem?_eq_getElem hjr
    have hrd := hr _ (List.getElem_mem hjr)
    have h3 := hrow j hjr
    revert hg hrd h3
    generalize rows[j]'hjr = r
    intro hg hrd h3
    match r, h3 with
    | [c0, c1, c2], _ =>
      obtain ⟨a, rfl, ha⟩ := rd_fld_int (n := 7) Tryd.underlying28 hrd 0 (u := 3) (o := 0) rfl (by kernel_rfl) Tryd.underlying3 rfl
      obtain ⟨b, rfl, hb⟩ := rd_fld_int (n := 7) Tryd.underlying28 hrd 1 (u := 3) (o := 1) rfl (by kernel_rfl) Tryd.underlying3 rfl
      have hl := rd_field (n := 8) Tryd.underlying28 hrd 2 (u := 23) (o := 2) rfl (c := 1) (by kernel_rfl)
      obtain ⟨A1, n1, c1, l, rfl, hnc, hcm, hat, hbd⟩ := ints_of_rdA (m := 6) (v := c2) (by simpa using hl)
      have := hat.len
      subst this
      exact ⟨⟨a, b, l⟩, ⟨_, hg, A1, c1, rfl, hat⟩, wf_bd_i64 ha, wf_bd_i64 hb, hbd, Nat.le_trans hnc hcm⟩)
  refine ⟨A, n, c, fs, rfl, hl, hm, ⟨rows, hfl, hs.len, rw_of_slk hs (by decide), fun j x f hx hf => ?_⟩, fun f hf => ?_⟩
  · obtain ⟨hj, e⟩ := List.getElem?_eq_some_iff.1 hf
    obtain ⟨⟨x', hx', hc⟩, -⟩ := hfs j hj
    rw [hx] at hx'
    injection hx' with hx'
    subst hx' e
    exact hc
  · obtain ⟨j, hj, e⟩ := List.getElem_of_mem hf
    subst e
    exact (hfs j hj).2
end Go.Proofs.YtopjkpopdffkeaaDoor
