/- The packer in memory. -/
import Derived.Test.YtopjkpopdffkeaaDoorPkW
set_option linter.unusedVariables false
set_option linter.unusedSimpArgs false
namespace Go.Proofs.YtopjkpopdffkeaaDoor
open Go.RowKit

/-- The types that the packer writes. -/
abbrev TP : List TypeId := [37, 45]
/-- What the packer knows. -/
structure PkS where
  out : List PcP
  left : Int
  size : Int
  file : Int
def PcC (base : Nat) (w : World) (x : List Value) (p : PcP) : Prop :=
  ∃ A1 c1 A2 c2, x = (pcC p.nw A1 p.fs.length c1 A2 p.is.length c2).toList ∧ FisAt base base w A1 p.fs.length p.fs ∧ IntsAt base base w A2 p.is.length p.is
/-- The pieces in a row of the call's own. -/
def OutR (base : Nat) (w : World) (A : Option Addr) (n c : Nat) (ps : List PcP) : Prop :=
  ∃ cs : List (List Value), ps.length = n ∧ cs.length = n ∧ w.ownsRow base 37 3 (.slice A n c) n cs.flatten ∧ ∀ (j : Nat) (x : List Value) (p : PcP), cs[j]? = some x → ps[j]? = some p → PcC base w x p
def Pkr (base : Nat) (w : World) (k : Nat) (st : PkS) : Prop :=
  base ≤ k ∧ ∃ A c, Blk w k 45 #[.slice A st.out.length c, .int .i64 st.left, .int .i64 st.size, .int .i64 st.file] ∧ OutR base w A st.out.length c st.out
section
variable {base n c k : Nat} {w w' : World} {A : Option Addr} {ps : List PcP} {st : PkS}
theorem PcC.kt {x : List Value} {p : PcP} (h : PcC base w x p) (hk : Kt TP base w w') : PcC base w' x p := by
  obtain ⟨A1, c1, A2, c2, e, h1, h2⟩ := h
  exact ⟨A1, c1, A2, c2, e, h1.kt hk (by decide) (by decide), RwAt.kt h2 hk (by decide)⟩
theorem PcC.one {x : List Value} {p : PcP} (h : PcC base w x p) : x.length = 3 ∧ ∀ u ∈ x, u.oneCell' = true := by
  obtain ⟨A1, c1, A2, c2, rfl, -, -⟩ := h
  refine ⟨rfl, fun u hu => ?_⟩
  simp only [pcC, List.mem_cons, List.not_mem_nil, or_false] at hu
  rcases hu with rfl | rfl | rfl <;> rfl
theorem out_cells {cs : List (List Value)} (hl : ps.length = cs.length) (h : ∀ (j : Nat) (x : List Value) (p : PcP), cs[j]? = some x → ps[j]? = some p → PcC base w x p) : (∀ x ∈ cs, x.length = 3) ∧ ∀ u ∈ cs.flatten, u.oneCell' = true := by
  have hx : ∀ x ∈ cs, ∃ p, PcC base w x p := fun x hx => by
    obtain ⟨j, hj, e⟩ := List.getElem_of_mem hx
    exact ⟨ps[j]'(by omega), h j x _ (by rw [List.getElem?_eq_getElem hj, e]) (List.getElem?_eq_getElem (by omega))⟩
  refine ⟨fun x h => by obtain ⟨f, hf⟩ := hx x h; exact hf.one.1, fun u hu => ?_⟩
  obtain ⟨x, hxm, hux⟩ := List.mem_flatten.1 hu
  obtain ⟨f, hf⟩ := hx x hxm
  exact hf.one.2 u hux
/-- What leaves the row's own block too. -/
theorem OutR.kt (h : OutR base w A n c ps) (hk : Kt TP base w w') (hb : ∀ g, (Value.slice A n c).ownBlock = some g → w'.heap[g]? = w.heap[g]?) : OutR base w' A n c ps := by
  obtain ⟨cs, h1, h2, h3, h4⟩ := h
  refine ⟨cs, h1, h2, ⟨h3.1, ?_⟩, fun j x p hx hp => (h4 j x p hx hp).kt hk⟩
  rcases h3.2 with h0 | ⟨g, cap, cur, e1, e2, e3, e4⟩
  · exact .inl h0
  · exact .inr ⟨g, cap, cur, e1, e2, (hb g (by rw [e1]; rfl)).trans e3, e4⟩
theorem OutR.blk (h : OutR base w A n c ps) {g : Nat} (hg : (Value.slice A n c).ownBlock = some g) : base ≤ g ∧ ∃ cs, Blk w g 37 cs := by
  obtain ⟨cs, h1, h2, h3, h4⟩ := h
  rcases h3.2 with ⟨e, -⟩ | ⟨g', cap, cur, e1, e2, e3, e4⟩
  · injection e with e _ _
    subst e
    cases hg
  · injection e1 with e1 _ _
    subst e1
    simp [Value.ownBlock] at hg
    subst hg
    exact ⟨e2, cur, e3⟩
theorem Pkr.below (h : Pkr base w k st) (hb : Below w.heap.size w w') : Pkr base w' k st := by
  obtain ⟨h0, A, c, h1, h2⟩ := h
  refine ⟨h0, A, c, h1.below hb, h2.kt (Kt.of_below hb) (fun g hg => ?_)⟩
  obtain ⟨-, cs, hB⟩ := h2.blk hg
  exact hb.block g hB.lt
theorem Pkr.lt (h : Pkr base w k st) : k < w.heap.size := by obtain ⟨-, A, c, h1, -⟩ := h; exact h1.lt
theorem Pkr.quad (h : Pkr base w k st) : ∃ A c, w.cell? ⟨k, 0, none⟩ = some (.slice A st.out.length c) ∧ w.cell? ⟨k, 1, none⟩ = some (.int .i64 st.left) ∧ w.cell? ⟨k, 2, none⟩ = some (.int .i64 st.size) ∧ w.cell? ⟨k, 3, none⟩ = some (.int .i64 st.file) ∧
    OutR base w A st.out.length c st.out ∧ ∀ i, w.frozen? ⟨k, i, none⟩ = false := by
  obtain ⟨h0, A, c, h1, h2⟩ := h
  exact ⟨A, c, h1.cell 0, h1.cell 1, h1.cell 2, h1.cell 3, h2, fun i => h1.frozen i⟩
theorem Pkr.setKt (h : Pkr base w k st) (i : Nat) (u : Value) : Kt TP base w (w.setCell ⟨k, i, none⟩ u) := by
  obtain ⟨h0, A, c, h1, h2⟩ := h
  exact (Kt.refl TP base w).set (.inl ⟨h0, fun t cs hB => by have := (Blk.type hB h1).1; subst this; simp⟩) u
theorem Pkr.far (h : Pkr base w k st) {A c} (h2 : OutR base w A st.out.length c st.out) (i : Nat) (u : Value) : OutR base (w.setCell ⟨k, i, none⟩ u) A st.out.length c st.out := by
  refine h2.kt (h.setKt i u) (fun g hg => ?_)
  obtain ⟨-, cs, hB⟩ := h2.blk hg
  obtain ⟨h0, A, c, h1, -⟩ := h
  refine Below.heap_setCell w _ u g (fun e => ?_)
  subst e
  have := (Blk.type hB h1).1
  revert this
  decide
/-- The packer's numbers are written. -/
theorem Pkr.left_ (h : Pkr base w k st) (x : Int) : Pkr base (w.setCell ⟨k, 1, none⟩ (.int .i64 x)) k { st with left := x } := by
  have h' := h
  obtain ⟨h0, A, c, h1, h2⟩ := h
  exact ⟨h0, A, c, h1.set 1 _, h'.far h2 1 _⟩
theorem Pkr.file_ (h : Pkr base w k st) (x : Int) : Pkr base (w.setCell ⟨k, 3, none⟩ (.int .i64 x)) k { st with file := x } := by
  have h' := h
  obtain ⟨h0, A, c, h1, h2⟩ := h
  exact ⟨h0, A, c, h1.set 3 _, h'.far h2 3 _⟩
/-- One of the pieces. -/
theorem OutR.at (h : OutR base w A n c ps) {j : Nat} (hj : j < n) : ∃ g p A1 c1 A2 c2, A = some ⟨g, 0, none⟩ ∧ base ≤ g ∧ (∃ cs, Blk w g 37 cs) ∧ ps[j]? = some p ∧ FisAt base base w A1 p.fs.length p.fs ∧ IntsAt base base w A2 p.is.length p.is ∧
    w.cell? ⟨g, j * 3, none⟩ = some (.bool p.nw) ∧ w.cell? ⟨g, j * 3 + 1, none⟩ = some (.slice A1 p.fs.length c1) ∧ w.cell? ⟨g, j * 3 + 2, none⟩ = some (.slice A2 p.is.length c2) := by
  obtain ⟨cs, h1, h2, h3, h4⟩ := h
  have hf : ps[j]? = some (ps[j]'(by omega)) := List.getElem?_eq_getElem _
  have hx : cs[j]? = some (cs[j]'(by omega)) := List.getElem?_eq_getElem _
  obtain ⟨A1, c1, A2, c2, e, r1, r2⟩ := h4 j _ _ hx hf
  obtain ⟨k1, -⟩ := out_cells (by omega) h4
  obtain ⟨g, hA⟩ : ∃ g, A = some ⟨g, 0, none⟩ := by
    rcases h3.2 with ⟨-, h0⟩ | ⟨g, cap, cur, hv, -⟩
    · omega
    · injection hv with hv1 _ _; exact ⟨g, hv1⟩
  subst hA
  obtain ⟨hbg, cs', hB⟩ := OutR.blk ⟨cs, h1, h2, h3, h4⟩ (g := g) rfl
  have hg : ∀ k u, k < 3 → ((pcC (ps[j]).nw A1 (ps[j]).fs.length c1 A2 (ps[j]).is.length c2).toList)[k]? = some u → w.cell? ⟨g, j * 3 + k, none⟩ = some u := fun k u hk hu => by
    have h5 := flatten_getR cs k1 j k hk
    rw [hx, Option.bind_some, e, hu] at h5
    have := h3.cells (g := g) rfl _ u h5
    rwa [Addr.add_mid, Nat.zero_add] at this
  exact ⟨g, _, A1, c1, A2, c2, rfl, hbg, ⟨cs', hB⟩, hf, r1, r2, hg 0 _ (by decide) rfl, hg 1 _ (by decide) rfl, hg 2 _ (by decide) rfl⟩
end
theorem etyPc : EtyK Tryd.prog 33 37 (.agg #[.bool false, .slice none 0 0, .slice none 0 0]) 3 56 := EtyK.mk' Tryd.underlying33 (by kernel_rfl) (by kernel_rfl) (by decide) (by decide)
theorem own_setk {w : World} {base n c k i : Nat} {e : TypeId} {A : Option Addr} {xs : List Value} (h : w.ownsRow base e k (.slice A n c) n xs) {g : Nat} (hA : A = some ⟨g, 0, none⟩) (hi : i < n * k) (v : Value) :
    (w.setCell ⟨g, i, none⟩ v).ownsRow base e k (.slice A n c) n (xs.set i v) := by
  subst hA
  refine ⟨by rw [List.length_set]; exact h.1, ?_⟩
  rcases h.2 with ⟨e1, e2⟩ | ⟨g', cap, cur, e1, e2, e3, e4, e5, e6, e7⟩
  · cases e1
  · injection e1 with e1 _ e8
    injection e1 with e1
    injection e1 with e1 _
    subst e1 e8
    refine .inr ⟨g, c, cur.setIfInBounds i v, rfl, e2, Blk.set e3 i v, e4, e5, by rw [Array.size_setIfInBounds]; exact e6, ?_⟩
    rw [Array.toList_setIfInBounds, List.take_set, e7]
theorem flatten_set3 {α : Type} : ∀ (cs : List (List α)), (∀ x ∈ cs, x.length = 3) → ∀ (j : Nat), j < cs.length → ∀ a b d : α,
    ((cs.flatten.set (j * 3) a).set (j * 3 + 1) b).set (j * 3 + 2) d = (cs.set j [a, b, d]).flatten
  | [], _, j, hj, _, _, _ => by simp at hj
  | x :: cs, h, j, hj, a, b, d => by
    have hx := h x (by simp)
    match x, hx with
    | [x0, x1, x2], _ =>
      cases j with
      | zero => simp
      | succ j =>
        have ih := flatten_set3 cs (fun y hy => h y (by simp [hy])) j (by simpa using hj) a b d
        rw [List.set_cons_succ, List.flatten_cons, List.flatten_cons, ← ih]
        rw [show (j + 1) * 3 = j * 3 + 1 + 1 + 1 by omega]
        simp
theorem flatten_set1 {α : Type} {k : Nat} : ∀ (cs : List (List α)), (∀ x ∈ cs, x.length = k) → ∀ (j : Nat) (hj : j < cs.length) (i : Nat), i < k → ∀ a : α,
    cs.flatten.set (j * k + i) a = (cs.set j ((cs[j]'hj).set i a)).flatten
  | [], _, j, hj, _, _, _ => by simp at hj
  | x :: cs, h, j, hj, i, hi, a => by
    have hx := h x (by simp)
    cases j with
    | zero =>
      rw [List.flatten_cons, List.set_cons_zero, List.flatten_cons, Nat.zero_mul, Nat.zero_add, List.set_append_left _ _ (by omega)]
      rfl
    | succ j =>
      rw [List.flatten_cons, List.set_cons_succ, List.flatten_cons, List.set_append_right _ _ (by rw [hx, Nat.succ_mul]; omega), hx, show (j + 1) * k + i - k = j * k + i by rw [Nat.succ_mul]; omega]
      rw [flatten_set1 cs (fun y hy => h y (by simp [hy])) j (by simpa using hj) i hi a]
      rfl
theorem OutR.set3 {base n c j : Nat} {w : World} {A : Option Addr} {ps : List PcP} (h : OutR base w A n c ps) (hj : j < n) {g : Nat} (hA : A = some ⟨g, 0, none⟩) (p : PcP) (A1 : Option Addr) (c1 : Nat) (A2 : Option Addr) (c2 : Nat)
    (hf : FisAt base base w A1 p.fs.length p.fs) (hi : IntsAt base base w A2 p.is.length p.is) :
    OutR base (((w.setCell ⟨g, j * 3, none⟩ (.bool p.nw)).setCell ⟨g, j * 3 + 1, none⟩ (.slice A1 p.fs.length c1)).setCell ⟨g, j * 3 + 2, none⟩ (.slice A2 p.is.length c2)) A n c (ps.set j p) ∧
    Kt TP base w (((w.setCell ⟨g, j * 3, none⟩ (.bool p.nw)).setCell ⟨g, j * 3 + 1, none⟩ (.slice A1 p.fs.length c1)).setCell ⟨g, j * 3 + 2, none⟩ (.slice A2 p.is.length c2)) := by
  have h' := h
  obtain ⟨hg, csg, hgb⟩ := h.blk (g := g) (by rw [hA]; rfl)
  have hT : base ≤ g ∧ ∀ t cs, Blk w g t cs → t ∈ TP := ⟨hg, fun t cs hB => by have := (Blk.type hB hgb).1; subst this; simp⟩
  have hk := (((Kt.refl TP base w).set (p := ⟨g, j * 3, none⟩) (.inl hT) (.bool p.nw)).set (p := ⟨g, j * 3 + 1, none⟩) (.inl hT) (.slice A1 p.fs.length c1)).set (p := ⟨g, j * 3 + 2, none⟩) (.inl hT) (.slice A2 p.is.length c2)
  refine ⟨?_, hk⟩
  obtain ⟨cs, h1, h2, h3, h4⟩ := h
  obtain ⟨k1, -⟩ := out_cells (by omega) h4
  refine ⟨cs.set j (pcC p.nw A1 p.fs.length c1 A2 p.is.length c2).toList, by rw [List.length_set]; exact h1, by rw [List.length_set]; exact h2, ?_, fun i x q hx hq => ?_⟩
  · have := own_setk (own_setk (own_setk h3 hA (show j * 3 < n * 3 by omega) (.bool p.nw)) hA (show j * 3 + 1 < n * 3 by omega) (.slice A1 p.fs.length c1)) hA (show j * 3 + 2 < n * 3 by omega) (.slice A2 p.is.length c2)
    rwa [flatten_set3 cs k1 j (by omega)] at this
  · by_cases e : j = i
    · subst e
      rw [List.getElem?_set_self (by omega)] at hx hq
      injection hx with hx
      injection hq with hq
      subst hx hq
      exact ⟨A1, c1, A2, c2, rfl, hf.kt hk (by decide) (by decide), RwAt.kt hi hk (by decide)⟩
    · rw [List.getElem?_set_ne e] at hx hq
      exact (h4 i x q hx hq).kt hk
/-- One piece more, in the row that append has left. -/
theorem OutR.push {base n c m c' : Nat} {w w' : World} {A A' : Option Addr} {ps : List PcP} {cs : List (List Value)} {x : List Value} {p : PcP} (h1 : ps.length = n) (h2 : cs.length = n) (h3 : w.ownsRow base 37 3 (.slice A n c) n cs.flatten)
    (h4 : ∀ (j : Nat) (x : List Value) (p : PcP), cs[j]? = some x → ps[j]? = some p → PcC base w x p) (hx : PcC base w x p) (hm : m = n + 1)
    (r1 : w'.ownsRow base 37 3 (.slice A' m c') m (cs.flatten ++ x)) (r2 : w.grownBy w' (Value.slice A n c).ownBlock) : OutR base w' A' m c' (ps ++ [p]) ∧ Kt TP base w w' := by
  have hk : Kt TP base w w' := Kt.gr r2 (fun g hg => by
    obtain ⟨hb, cs', hB⟩ := OutR.blk ⟨cs, h1, h2, h3, h4⟩ hg
    exact ⟨hb, _, cs', hB, by simp⟩)
  subst hm
  refine ⟨⟨cs ++ [x], by rw [List.length_append]; simp; omega, by rw [List.length_append]; simp; omega, by rw [List.flatten_append]; simpa using r1, fun j y q hy hq => ?_⟩, hk⟩
  rcases Nat.lt_trichotomy j n with hj | hj | hj
  · rw [List.getElem?_append_left (by omega)] at hy hq
    exact (h4 j y q hy hq).kt hk
  · subst hj
    rw [List.getElem?_append_right (by omega)] at hy hq
    simp only [h2, h1, Nat.sub_self, List.getElem?_cons_zero, Option.some.injEq] at hy hq
    subst hy hq
    exact hx.kt hk
  · rw [List.getElem?_eq_none (by rw [List.length_append]; simp; omega)] at hy
    cases hy
theorem Pkr.blkG {base k : Nat} {w w' : World} {st : PkS} {A : Option Addr} {n c : Nat} (h : Pkr base w k st) (hO : OutR base w A n c st.out) (r2 : w.grownBy w' (Value.slice A n c).ownBlock) :
    ∃ u csk, Blk w' k 45 #[u, csk, .int .i64 st.size, .int .i64 st.file] := by
  obtain ⟨h0, A1, c1, h1, h2⟩ := h
  have hne : some k ≠ (Value.slice A n c).ownBlock := fun e => by
    obtain ⟨-, cs, hB⟩ := hO.blk e.symm
    have := (Blk.type hB h1).1
    revert this
    decide
  exact ⟨_, _, (r2.block k h1.lt hne).trans h1⟩
theorem Pkr.out_ {base k m c' : Nat} {w w' : World} {st : PkS} {A A' : Option Addr} {n c : Nat} (h : Pkr base w k st) (hO : OutR base w A n c st.out) (r2 : w.grownBy w' (Value.slice A n c).ownBlock) {ps : List PcP} (hm : ps.length = m) (hp : OutR base w' A' m c' ps) (hk : Kt TP base w w') :
    Pkr base (w'.setCell ⟨k, 0, none⟩ (.slice A' m c')) k { st with out := ps } ∧ Kt TP base w (w'.setCell ⟨k, 0, none⟩ (.slice A' m c')) := by
  obtain ⟨h0, A1, c1, h1, h2⟩ := h
  have hne : some k ≠ (Value.slice A n c).ownBlock := fun e => by
    obtain ⟨-, cs, hB⟩ := hO.blk e.symm
    have := (Blk.type hB h1).1
    revert this
    decide
  have h1' : Blk w' k _ _ := (r2.block k h1.lt hne).trans h1
  have hks : Kt TP base w' (w'.setCell ⟨k, 0, none⟩ (.slice A' m c')) := (Kt.refl _ _ _).set (.inl ⟨h0, fun t cs hB => by have := (Blk.type hB h1').1; subst this; simp⟩) _
  refine ⟨⟨h0, A', c', ?_, ?_⟩, hk.trans hks⟩
  · show Blk _ k _ #[.slice A' ps.length c', .int .i64 st.left, .int .i64 st.size, .int .i64 st.file]
    rw [hm]
    exact h1'.set 0 _
  · show OutR base _ A' ps.length c' ps
    rw [hm]
    refine hp.kt hks (fun g hg => ?_)
    obtain ⟨-, cs, hB⟩ := hp.blk hg
    refine Below.heap_setCell w' _ _ g (fun e => ?_)
    subst e
    have := (Blk.type hB h1').1
    revert this
    decide
theorem set3_far {w : World} {g a b d : Nat} {u v x : Value} {p : Addr} (h : p.block ≠ g) : (((w.setCell ⟨g, a, none⟩ u).setCell ⟨g, b, none⟩ v).setCell ⟨g, d, none⟩ x).cell? p = w.cell? p := by
  rw [World.cell?_setCell_other _ _ _ _ (fun e => h (by rw [← e])), World.cell?_setCell_other _ _ _ _ (fun e => h (by rw [← e])), World.cell?_setCell_other _ _ _ _ (fun e => h (by rw [← e]))]
/-- The last piece is another one. -/
theorem Pkr.set3 {base k j : Nat} {w : World} {st : PkS} (h : Pkr base w k st) (hj : j < st.out.length) {g c : Nat} (hc : w.cell? ⟨k, 0, none⟩ = some (.slice (some ⟨g, 0, none⟩) st.out.length c)) (p : PcP) (A1 : Option Addr) (c1 : Nat) (A2 : Option Addr) (c2 : Nat)
    (hf : FisAt base base w A1 p.fs.length p.fs) (hi : IntsAt base base w A2 p.is.length p.is) :
    Pkr base (((w.setCell ⟨g, j * 3, none⟩ (.bool p.nw)).setCell ⟨g, j * 3 + 1, none⟩ (.slice A1 p.fs.length c1)).setCell ⟨g, j * 3 + 2, none⟩ (.slice A2 p.is.length c2)) k { st with out := st.out.set j p } ∧
    Kt TP base w (((w.setCell ⟨g, j * 3, none⟩ (.bool p.nw)).setCell ⟨g, j * 3 + 1, none⟩ (.slice A1 p.fs.length c1)).setCell ⟨g, j * 3 + 2, none⟩ (.slice A2 p.is.length c2)) := by
  obtain ⟨h0, A, c', h1, h2⟩ := h
  rw [h1.cell 0] at hc
  simp only [List.getElem?_toArray, List.getElem?_cons_zero, Option.some.injEq, Value.slice.injEq, true_and] at hc
  obtain ⟨rfl, rfl⟩ := hc
  obtain ⟨hg, csg, hgb⟩ := h2.blk (g := g) rfl
  have hgk : k ≠ g := by
    rintro rfl
    have := (Blk.type hgb h1).1
    revert this
    decide
  obtain ⟨r1, r2⟩ := h2.set3 hj rfl p A1 c1 A2 c2 hf hi
  refine ⟨⟨h0, some ⟨g, 0, none⟩, c', ?_, ?_⟩, r2⟩
  · show Blk _ k _ #[.slice (some ⟨g, 0, none⟩) (st.out.set j p).length c', .int .i64 st.left, .int .i64 st.size, .int .i64 st.file]
    rw [List.length_set]
    exact ((h1.far hgk _).far hgk _).far hgk _
  · show OutR base _ (some ⟨g, 0, none⟩) (st.out.set j p).length c' (st.out.set j p)
    rw [List.length_set]
    exact r1
end Go.Proofs.YtopjkpopdffkeaaDoor
