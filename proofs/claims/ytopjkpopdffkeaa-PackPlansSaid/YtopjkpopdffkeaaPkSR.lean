/- Files whose lists of blocks are rows of the call's own, each in a block of its own, and a row of inodes beside them: what may grow in place. -/
import Derived.Test.YtopjkpopdffkeaaPkF
import Derived.Test.YtopjkpopdffkeaaPkRefS
namespace Go.Proofs.Ytopjkpopdffkeaa
open Go.RowKit

def ob (A : Option Addr) : Option Nat := (Value.slice A 0 0).ownBlock
theorem ob_eq (A : Option Addr) (n c : Nat) : (Value.slice A n c).ownBlock = ob A := ob' A n c
def srC (fs : List FI) (rs : List (Option Addr × Nat)) : List (List Value) := List.zipWith (fun f r => fiV f r.1 r.2) fs rs
theorem srC_get {fs : List FI} {rs : List (Option Addr × Nat)} {j : Nat} {f : FI} {r : Option Addr × Nat} (hf : fs[j]? = some f) (hr : rs[j]? = some r) : (srC fs rs)[j]? = some (fiV f r.1 r.2) := by
  unfold srC
  rw [List.getElem?_zipWith, hf, hr]
theorem srC_snoc {fs : List FI} {rs : List (Option Addr × Nat)} (h : fs.length = rs.length) (f : FI) (r : Option Addr × Nat) : srC (fs ++ [f]) (rs ++ [r]) = srC fs rs ++ [fiV f r.1 r.2] := by
  unfold srC
  rw [List.zipWith_append h]
  rfl
theorem srC_set : ∀ (fs : List FI) (rs : List (Option Addr × Nat)) (q : Nat) (f : FI) (r : Option Addr × Nat), srC (fs.set q f) (rs.set q r) = (srC fs rs).set q (fiV f r.1 r.2)
  | [], rs, q, f, r => by simp [srC]
  | a :: fs, [], q, f, r => by cases q <;> simp [srC]
  | a :: fs, b :: rs, 0, f, r => rfl
  | a :: fs, b :: rs, q + 1, f, r => by
    have := srC_set fs rs q f r
    simp only [srC, List.set_cons_succ, List.zipWith_cons_cons] at this ⊢
    rw [this]
theorem srC_three3 : ∀ (fs : List FI) (rs : List (Option Addr × Nat)), ∀ x ∈ srC fs rs, x.length = 3
  | [], rs, x, h => by simp [srC] at h
  | a :: fs, [], x, h => by simp [srC] at h
  | a :: fs, b :: rs, x, h => by
    rcases List.mem_cons.1 (show x ∈ fiV a b.1 b.2 :: srC fs rs from h) with h | h
    · rw [h]; rfl
    · exact srC_three3 fs rs x h
theorem srC_three {fs : List FI} {rs : List (Option Addr × Nat)} : ∀ x ∈ srC fs rs, x.length = 3 := srC_three3 fs rs
structure SR (bs : Nat) (w : World) (A : Option Addr) (n c : Nat) (fs : List FI) (A' : Option Addr) (n' c' : Nat) (is : List Int) (rs : List (Option Addr × Nat)) : Prop where
  ln : fs.length = n
  lr : rs.length = n
  ln' : is.length = n'
  row : w.ownsRow bs 45 3 (.slice A n c) n (srC fs rs).flatten
  ls : ∀ (j : Nat) f r, fs[j]? = some f → rs[j]? = some r → w.ownsRow bs 3 1 (.slice r.1 f.ls.length r.2) f.ls.length (intC f.ls)
  io : w.ownsRow bs 3 1 (.slice A' n' c') n' (intC is)
  dj : ∀ (i j : Nat) ri rj g, i ≠ j → rs[i]? = some ri → rs[j]? = some rj → ob ri.1 = some g → ob rj.1 ≠ some g
  di : ∀ (j : Nat) r g, rs[j]? = some r → ob r.1 = some g → ob A' ≠ some g
abbrev TS : List TypeId := [45, 3]
theorem own_blk2 {w : World} {base n k : Nat} {e : TypeId} {v : Value} {xs : List Value} (h : w.ownsRow base e k v n xs) {g : Nat} (hg : v.ownBlock = some g) : base ≤ g ∧ ∃ cs, Blk w g e cs := by
  rcases h.2 with ⟨rfl, -⟩ | ⟨g', cap, cur, rfl, h2, h3, -⟩
  · cases hg
  · simp [Value.ownBlock] at hg
    subst hg
    exact ⟨h2, cur, h3⟩
theorem own_gr2 {w w' : World} {base n k : Nat} {e : TypeId} {v : Value} {xs : List Value} (h : w.ownsRow base e k v n xs) {r : Option Nat} (hg : w.grownBy w' r) (hr : ∀ g, v.ownBlock = some g → some g ≠ r) : w'.ownsRow base e k v n xs := by
  refine ⟨h.1, ?_⟩
  rcases h.2 with h0 | ⟨g, cap, cur, rfl, h2, h3, h4⟩
  · exact .inl h0
  · exact .inr ⟨g, cap, cur, rfl, h2, (hg.block g (Blk.lt h3) (hr g rfl)).trans h3, h4⟩
section
variable {bs n c n' c' : Nat} {w w' : World} {A A' : Option Addr} {fs : List FI} {is : List Int} {rs : List (Option Addr × Nat)}
theorem SR.nil : SR bs w none 0 0 [] none 0 0 [] [] := ⟨rfl, rfl, rfl, World.ownsRow_nil _ _ _ _, by simp, World.ownsRow_nil _ _ _ _, by simp, by simp⟩
theorem SR.below (h : SR bs w A n c fs A' n' c' is rs) (hb : Below w.heap.size w w') : SR bs w' A n c fs A' n' c' is rs :=
  ⟨h.ln, h.lr, h.ln', own_bel h.row hb, fun j f r hf hr => own_bel (h.ls j f r hf hr) hb, own_bel h.io hb, h.dj, h.di⟩
theorem SR.lsblk (h : SR bs w A n c fs A' n' c' is rs) {j g : Nat} {r : Option Addr × Nat} (hr : rs[j]? = some r) (hg : ob r.1 = some g) : bs ≤ g ∧ ∃ cs, Blk w g 3 cs := by
  have hj := (List.getElem?_eq_some_iff.1 hr).1
  have hf : fs[j]? = some (fs[j]'(by have := h.ln; have := h.lr; omega)) := List.getElem?_eq_getElem _
  exact own_blk2 (h.ls j _ r hf hr) (by rw [ob_eq]; exact hg)
/-- The inodes' row has grown. -/
theorem SR.growI (h : SR bs w A n c fs A' n' c' is rs) {B : Option Addr} {m d : Nat} {js : List Int} (hm : js.length = m) (hg : w.grownBy w' (Value.slice A' n' c').ownBlock) (ho : w'.ownsRow bs 3 1 (.slice B m d) m (intC js))
    (hn : ob B = ob A' ∨ ∃ g, ob B = some g ∧ w.heap.size ≤ g) : SR bs w' A n c fs B m d js rs ∧ Kt TS bs w w' := by
  rw [ob_eq] at hg
  have hi : ∀ g, ob A' = some g → bs ≤ g ∧ ∃ cs, Blk w g 3 cs := fun g e => own_blk2 h.io (by rw [ob_eq]; exact e)
  refine ⟨⟨h.ln, h.lr, hm, own_gr2 h.row hg (fun g e e2 => ?_), fun j f r hf hr => own_gr2 (h.ls j f r hf hr) hg (fun g e e2 => ?_), ho, h.dj, fun j r g hr e e2 => ?_⟩, Kt.gr hg (fun g e => ?_)⟩
  · obtain ⟨-, cs, hB⟩ := hi g e2.symm
    obtain ⟨-, cs', hB'⟩ := own_blk2 h.row e
    exact absurd (Blk.type hB hB').1 (by decide)
  · rw [ob_eq] at e
    exact h.di j r g hr e e2.symm
  · rcases hn with hn | ⟨g', hn, hl⟩
    · exact h.di j r g hr e (hn ▸ e2)
    · rw [hn] at e2
      injection e2 with e2
      obtain ⟨-, cs, hB⟩ := h.lsblk hr e
      have := hB.lt
      omega
  · obtain ⟨hb, cs, hB⟩ := hi g e
    exact ⟨hb, _, cs, hB, by simp⟩
/-- One more file, with no block. -/
theorem SR.push (h : SR bs w A n c fs A' n' c' is rs) {B : Option Addr} {m d : Nat} {i v : Int} (hm : m = n + 1) (hg : w.grownBy w' (Value.slice A n c).ownBlock)
    (ho : w'.ownsRow bs 45 3 (.slice B m d) m ((srC fs rs).flatten ++ [.int .i64 i, .int .i64 v, .slice none 0 0])) : SR bs w' B m d (fs ++ [⟨i, v, []⟩]) A' n' c' is (rs ++ [(none, 0)]) ∧ Kt TS bs w w' := by
  have hi : ∀ g, (Value.slice A n c).ownBlock = some g → bs ≤ g ∧ ∃ cs, Blk w g 45 cs := fun g e => own_blk2 h.row e
  have hne : ∀ g, (∃ cs, Blk w g 3 cs) → some g ≠ (Value.slice A n c).ownBlock := fun g ⟨cs, hB⟩ e => by
    obtain ⟨-, cs', hB'⟩ := hi g e.symm
    exact absurd (Blk.type hB hB').1 (by decide)
  subst hm
  have hl := h.ln
  have hlr := h.lr
  refine ⟨⟨by rw [List.length_append, hl]; rfl, by rw [List.length_append, hlr]; rfl, h.ln', ?_, fun j f r hf hr => ?_, own_gr2 h.io hg (fun g e => hne g (own_blk2 h.io e).2), fun a b ra rb g hab ha hb e e2 => ?_, fun j r g hr e e2 => ?_⟩, Kt.gr hg (fun g e => by obtain ⟨hb, cs, hB⟩ := hi g e; exact ⟨hb, _, cs, hB, by simp⟩)⟩
  · rw [srC_snoc (by omega), List.flatten_append]
    simpa [fiV] using ho
  · rcases snoc_get hf with hf | ⟨e1, e2⟩
    · rcases snoc_get hr with hr | ⟨e3, e4⟩
      · exact own_gr2 (h.ls j f r hf hr) hg (fun g e => hne g (own_blk2 (h.ls j f r hf hr) e).2)
      · have := (List.getElem?_eq_some_iff.1 hf).1; omega
    · rcases snoc_get hr with hr | ⟨e3, e4⟩
      · have := (List.getElem?_eq_some_iff.1 hr).1; omega
      · rw [e2, e4]; exact World.ownsRow_nil _ _ _ _
  · rcases snoc_get ha with ha | ⟨e3, e4⟩
    · rcases snoc_get hb with hb | ⟨e5, e6⟩
      · exact h.dj a b ra rb g hab ha hb e e2
      · rw [e6] at e2; cases e2
    · rw [e4] at e; cases e
  · rcases snoc_get hr with hr | ⟨e3, e4⟩
    · exact h.di j r g hr e e2
    · rw [e4] at e; cases e
/-- One file's list has grown, and stands in its place. -/
theorem SR.growL (h : SR bs w A n c fs A' n' c' is rs) {q : Nat} {f : FI} {r : Option Addr × Nat} (hf : fs[q]? = some f) (hr : rs[q]? = some r) {B : Option Addr} {m d : Nat} {x : Int} (hm : m = f.ls.length + 1)
    (hg : w.grownBy w' (ob r.1)) (ho : w'.ownsRow bs 3 1 (.slice B m d) m (intC (f.ls ++ [x]))) (hn : ob B = ob r.1 ∨ ∃ g, ob B = some g ∧ w.heap.size ≤ g) :
    ∃ g, A = some ⟨g, 0, none⟩ ∧ bs ≤ g ∧ (∃ cs, Blk w g 45 cs) ∧ (∃ cs, Blk w' g 45 cs) ∧ w'.cell? ⟨g, q * 3 + 2, none⟩ = some (.slice r.1 f.ls.length r.2) ∧ Kt TS bs w w' ∧ Kt TS bs w' (w'.setCell ⟨g, q * 3 + 2, none⟩ (.slice B m d)) ∧
      SR bs (w'.setCell ⟨g, q * 3 + 2, none⟩ (.slice B m d)) A n c (fs.set q { f with ls := f.ls ++ [x] }) A' n' c' is (rs.set q (B, d)) := by
  have hl := h.ln
  have hlr := h.lr
  have hq := (List.getElem?_eq_some_iff.1 hf).1
  have hlb : ∀ g, ob r.1 = some g → bs ≤ g ∧ ∃ cs, Blk w g 3 cs := fun g e => h.lsblk hr e
  have hrow := own_gr2 h.row hg (fun g e e2 => by
    obtain ⟨-, cs, hB⟩ := hlb g e2.symm
    obtain ⟨-, cs', hB'⟩ := own_blk2 h.row e
    exact absurd (Blk.type hB hB').1 (by decide))
  obtain ⟨g, hA⟩ : ∃ g, A = some ⟨g, 0, none⟩ := by
    rcases hrow.2 with ⟨-, h0⟩ | ⟨g, cap, cur, hv, -⟩
    · have := hrow.1; rw [h0] at this; simp at this; omega
    · injection hv with hv1 _ _; exact ⟨g, hv1⟩
  subst hA
  obtain ⟨hbg, csg, hgb⟩ := own_blk2 hrow (g := g) rfl
  obtain ⟨-, csg0, hgb0⟩ := own_blk2 h.row (g := g) rfl
  have hcell := flatten_getR (srC fs rs) srC_three q 2 (by decide)
  rw [srC_get hf hr, Option.bind_some] at hcell
  have hc := hrow.cells (g := g) rfl _ _ (hcell.trans rfl)
  rw [Addr.add_mid, Nat.zero_add] at hc
  have hks : Kt TS bs w' (w'.setCell ⟨g, q * 3 + 2, none⟩ (.slice B m d)) := (Kt.refl _ _ _).set (p := ⟨g, q * 3 + 2, none⟩) (.inl ⟨hbg, fun t cs hB => by simp [(Blk.type hB hgb).1]⟩) _
  have hkg : Kt TS bs w w' := Kt.gr hg (fun g' e => by obtain ⟨hb, cs, hB⟩ := hlb g' e; exact ⟨hb, _, cs, hB, by simp⟩)
  have hfar : ∀ {v : Value} {k : Nat} {xs : List Value}, w'.ownsRow bs 3 1 v k xs → (w'.setCell ⟨g, q * 3 + 2, none⟩ (.slice B m d)).ownsRow bs 3 1 v k xs := fun ho => ho.keep_far (fun g' e => by
    obtain ⟨-, cs', hB'⟩ := own_blk2 ho e
    rintro rfl
    exact absurd (Blk.type hgb hB').1 (by decide)) _
  refine ⟨g, rfl, hbg, ⟨_, hgb0⟩, ⟨_, hgb⟩, hc, hkg, hks, ⟨by rw [List.length_set]; exact hl, by rw [List.length_set]; exact hlr, h.ln', ?_, fun j f' r' hf' hr' => ?_, ?_, fun a b ra rb g' hab ha hb e e2 => ?_, fun j r' g' hr' e e2 => ?_⟩⟩
  · have h7 := own_setk hrow rfl (show q * 3 + 2 < n * 3 by omega) (.slice B m d)
    have hqs : q < (srC fs rs).length := by unfold srC; rw [List.length_zipWith]; omega
    rw [flatten_set1 (srC fs rs) srC_three q hqs 2 (by decide)] at h7
    have e2 : ((srC fs rs)[q]'hqs).set 2 (.slice B m d) = fiV { f with ls := f.ls ++ [x] } B d := by
      have e3 : (srC fs rs)[q]'hqs = fiV f r.1 r.2 := by
        have := srC_get hf hr
        rw [List.getElem?_eq_getElem hqs] at this
        exact Option.some.inj this
      rw [e3]
      show [_, _, Value.slice B m d] = [_, _, Value.slice B (f.ls ++ [x]).length d]
      rw [List.length_append, hm]
      rfl
    rw [e2] at h7
    rw [srC_set]
    exact h7
  · by_cases e : q = j
    · subst e
      rw [List.getElem?_set_self hq] at hf'
      rw [List.getElem?_set_self (by omega)] at hr'
      injection hf' with hf'
      injection hr' with hr'
      subst hf' hr'
      have hmm : (f.ls ++ [x]).length = m := by rw [List.length_append, hm]; rfl
      show World.ownsRow _ bs 3 1 (.slice B (f.ls ++ [x]).length d) (f.ls ++ [x]).length (intC (f.ls ++ [x]))
      rw [hmm]
      exact hfar ho
    · rw [List.getElem?_set_ne e] at hf' hr'
      exact hfar (own_gr2 (h.ls j f' r' hf' hr') hg (fun g' e1 e2 => by
        rw [ob_eq] at e1
        exact h.dj j q r' r g' (Ne.symm e) hr' hr e1 e2.symm))
  · exact hfar (own_gr2 h.io hg (fun g' e1 e2 => by
      rw [ob_eq] at e1
      exact h.di q r g' hr e2.symm e1))
  · rcases set_lt ha with ⟨a1, a2, -⟩ | ⟨a1, a2⟩
    · rcases set_lt hb with ⟨b1, b2, -⟩ | ⟨b1, b2⟩
      · omega
      · rw [a2] at e
        rcases hn with hn | ⟨g9, hn, hge⟩
        · exact h.dj q b r rb g' (by omega) hr b2 (hn ▸ e) e2
        · have h9 : some g9 = some g' := hn.symm.trans e
          injection h9 with h9
          obtain ⟨-, cs, hB⟩ := h.lsblk b2 e2
          have := hB.lt
          omega
    · rcases set_lt hb with ⟨b1, b2, -⟩ | ⟨b1, b2⟩
      · rw [b2] at e2
        rcases hn with hn | ⟨g9, hn, hge⟩
        · exact h.dj a q ra r g' (by omega) a2 hr e (hn ▸ e2)
        · have h9 : some g9 = some g' := hn.symm.trans e2
          injection h9 with h9
          obtain ⟨-, cs, hB⟩ := h.lsblk a2 e
          have := hB.lt
          omega
      · exact h.dj a b ra rb g' hab a2 b2 e e2
  · rcases set_lt hr' with ⟨b1, b2, -⟩ | ⟨b1, b2⟩
    · rw [b2] at e
      rcases hn with hn | ⟨g9, hn, hge⟩
      · exact h.di q r g' hr (hn ▸ e) e2
      · have h9 : some g9 = some g' := hn.symm.trans e
        injection h9 with h9
        obtain ⟨-, cs, hB⟩ := own_blk2 h.io (by rw [ob_eq]; exact e2)
        have := hB.lt
        omega
    · exact h.di j r' g' b2 e e2
theorem SR.at (h : SR bs w A n c fs A' n' c' is rs) {q : Nat} {f : FI} {r : Option Addr × Nat} (hf : fs[q]? = some f) (hr : rs[q]? = some r) : ∃ g, A = some ⟨g, 0, none⟩ ∧ bs ≤ g ∧ (∃ cs, Blk w g 45 cs) ∧ w.cell? ⟨g, q * 3 + 2, none⟩ = some (.slice r.1 f.ls.length r.2) := by
  have hq := (List.getElem?_eq_some_iff.1 hf).1
  have hl := h.ln
  obtain ⟨g, hA⟩ : ∃ g, A = some ⟨g, 0, none⟩ := by
    rcases h.row.2 with ⟨-, h0⟩ | ⟨g, cap, cur, hv, -⟩
    · have := h.row.1; rw [h0] at this; simp at this; omega
    · injection hv with hv1 _ _; exact ⟨g, hv1⟩
  subst hA
  obtain ⟨hbg, csg, hgb⟩ := own_blk2 h.row (g := g) rfl
  have hcell := flatten_getR (srC fs rs) srC_three q 2 (by decide)
  rw [srC_get hf hr, Option.bind_some] at hcell
  have hc := h.row.cells (g := g) rfl _ _ (hcell.trans rfl)
  rw [Addr.add_mid, Nat.zero_add] at hc
  exact ⟨g, rfl, hbg, ⟨_, hgb⟩, hc⟩
theorem SR.fis (h : SR bs w A n c fs A' n' c' is rs) : FisAt bs bs w A n fs :=
  ⟨srC fs rs, h.ln, by unfold srC; rw [List.length_zipWith]; have := h.ln; have := h.lr; omega, RwAt.of_own h.row, fun j x f hx hf => by
    have hj := (List.getElem?_eq_some_iff.1 hf).1
    have hr : rs[j]? = some (rs[j]'(by have := h.ln; have := h.lr; omega)) := List.getElem?_eq_getElem _
    rw [srC_get hf hr] at hx
    injection hx with hx
    exact ⟨_, _, hx.symm, RwAt.of_own (h.ls j f _ hf hr)⟩⟩
theorem SR.ints (h : SR bs w A n c fs A' n' c' is rs) : IntsAt bs bs w A' n' is := RwAt.of_own h.io
end
end Go.Proofs.Ytopjkpopdffkeaa
