/- The plan, plainly: what an item keeps. -/
import Derived.Test.YtopjkpopdffkeaaDoorPkLbW
set_option linter.unusedVariables false
set_option linter.unusedSimpArgs false
namespace Go.Proofs.YtopjkpopdffkeaaDoor

def EmpOk (add : Int → PcP → PcP × Bool) : Prop := ∀ b, blkN (add (-1) ⟨b, [], []⟩).1.fs (add (-1) ⟨b, [], []⟩).1.is = 3 ∧ szN (add (-1) ⟨b, [], []⟩).1.fs (add (-1) ⟨b, [], []⟩).1.is ≤ 88
/-- What the packer keeps. -/
structure JP (sz : Int) (st : PkS) : Prop where
  size : st.size = sz
  l0 : 0 ≤ st.left
  l1 : st.left ≤ sz
  fit : st.out ≠ [] → fitP st.left (lastP st)
theorem lastP_set {st : PkS} (h : st.out ≠ []) (p : PcP) : lastP { st with out := st.out.set (st.out.length - 1) p } = p := by
  obtain ⟨q, hq⟩ : ∃ q, st.out.length = q + 1 := ⟨st.out.length - 1, by have := List.length_pos_iff.2 h; omega⟩
  show (st.out.set (st.out.length - 1) p).getLastD _ = p
  rw [List.getLastD_eq_getLast?, List.getLast?_eq_getElem?, List.length_set, hq, Nat.add_sub_cancel, List.getElem?_set_self (by omega)]
  rfl
theorem set_ne {α : Type} {l : List α} (h : l ≠ []) (i : Nat) (x : α) : l.set i x ≠ [] := fun e => h (by have := congrArg List.length e; rw [List.length_set] at this; exact List.eq_nil_of_length_eq_zero this)
/-- A try behind a begin is kept. -/
theorem beg_try {sz : Int} {st : PkS} {add : Int → PcP → PcP × Bool} (h8 : 8 ≤ sz) (hs : st.size = sz) (h0 : 0 ≤ st.left) (h1 : st.left ≤ sz) (he : EmpOk add) :
    ∃ b, JP sz (tryS (begS st) (add (begS st).file (lastP (begS st))).1).2 ∧ (tryS (begS st) (add (begS st).file (lastP (begS st))).1).2.out = st.out ++ [(add (-1) ⟨b, [], []⟩).1] ∧ lastP (tryS (begS st) (add (begS st).file (lastP (begS st))).1).2 = (add (-1) ⟨b, [], []⟩).1 ∧
      (tryS (begS st) (add (begS st).file (lastP (begS st))).1).2.file = -1 ∧ b = decide (st.left ≤ 2) ∧ (tryS (begS st) (add (begS st).file (lastP (begS st))).1).2.left = (if st.left ≤ 2 then sz else st.left) := by
  have hl : lastP (begS st) = ⟨decide (st.left ≤ 2), [], []⟩ := by simp [lastP, begS, List.getLastD_eq_getLast?]
  have hf : (begS st).file = -1 := rfl
  have hleft : (begS st).left = if st.left ≤ 2 then sz else st.left := by rw [← hs]; rfl
  have hlo : 3 ≤ (begS st).left ∧ (begS st).left ≤ sz := by rw [hleft]; split <;> omega
  rw [hl, hf]
  refine ⟨decide (st.left ≤ 2), ?_⟩
  obtain ⟨e1, e2⟩ := he (decide (st.left ≤ 2))
  generalize (add (-1) ⟨decide (st.left ≤ 2), [], []⟩).1 = p at *
  have hfit : fitP (begS st).left p := ⟨by rw [e1]; exact hlo.1, e2⟩
  have ho : (begS st).out = st.out ++ [⟨decide (st.left ≤ 2), [], []⟩] := rfl
  have hne : (begS st).out ≠ [] := by rw [ho]; simp
  have ht : tryS (begS st) p = (true, { begS st with out := (begS st).out.set ((begS st).out.length - 1) p }) := by unfold tryS; rw [if_pos hfit]
  rw [ht]
  refine ⟨⟨?_, ?_, ?_, fun _ => ?_⟩, ?_, lastP_set hne p, rfl, rfl, hleft⟩
  · exact hs
  · show 0 ≤ (begS st).left; omega
  · exact hlo.2
  · rw [lastP_set hne p]; exact hfit
  · show (begS st).out.set ((begS st).out.length - 1) p = _
    rw [ho, List.length_append, List.length_singleton, Nat.add_sub_cancel, List.set_append_right _ _ (Nat.le_refl _), Nat.sub_self]
    rfl
theorem tryS_fst {st : PkS} {p : PcP} : (tryS st p).1 = true ↔ fitP st.left p := by
  unfold tryS
  split
  · rename_i h; exact ⟨fun _ => h, fun _ => rfl⟩
  · rename_i h; exact ⟨fun e => by simp at e, fun e => absurd e h⟩
/-- What an item does. -/
theorem item_cases {sz : Int} {st : PkS} {add : Int → PcP → PcP × Bool} (h8 : 8 ≤ sz) (h : JP sz st) (he : EmpOk add) :
    (st.out ≠ [] ∧ (add st.file (lastP st)).2 = true ∧ fitP st.left (add st.file (lastP st)).1 ∧ JP sz (itemS add st) ∧ itemS add st = { st with out := st.out.set (st.out.length - 1) (add st.file (lastP st)).1 } ∧ lastP (itemS add st) = (add st.file (lastP st)).1) ∨
    (¬ (st.out ≠ [] ∧ (add st.file (lastP st)).2 = true ∧ fitP st.left (add st.file (lastP st)).1) ∧ ∃ left b, left = (if st.out = [] then st.left else st.left - blkN (lastP st).fs (lastP st).is) ∧ b = decide (left ≤ 2) ∧ JP sz (itemS add st) ∧ (itemS add st).out = st.out ++ [(add (-1) ⟨b, [], []⟩).1] ∧ lastP (itemS add st) = (add (-1) ⟨b, [], []⟩).1 ∧ (itemS add st).file = -1 ∧
      (itemS add st).left = if left ≤ 2 then sz else left) := by
  by_cases hn : st.out = []
  · refine .inr ⟨fun e => e.1 hn, ?_⟩
    have e : itemS add st = (tryS (begS st) (add (begS st).file (lastP (begS st))).1).2 := by unfold itemS; rw [if_pos hn]
    obtain ⟨b, j1, j2, j3, j4, j5, j6⟩ := beg_try (add := add) h8 h.size h.l0 h.l1 he
    rw [e]
    exact ⟨st.left, b, by rw [if_pos hn], j5, j1, j2, j3, j4, j6⟩
  · by_cases hc : (add st.file (lastP st)).2 = true ∧ (tryS st (add st.file (lastP st)).1).1 = true
    · have hf := tryS_fst.1 hc.2
      have e : itemS add st = { st with out := st.out.set (st.out.length - 1) (add st.file (lastP st)).1 } := by
        unfold itemS
        rw [if_neg hn, if_pos hc]
        unfold tryS
        rw [if_pos hf]
      refine .inl ⟨hn, hc.1, hf, ?_, e, by rw [e]; exact lastP_set hn _⟩
      rw [e]
      exact ⟨h.size, h.l0, h.l1, fun _ => by rw [lastP_set hn]; exact hf⟩
    · refine .inr ⟨fun e => hc ⟨e.2.1, tryS_fst.2 e.2.2⟩, ?_⟩
      have hfit := (h.fit hn).1
      have e : itemS add st = (tryS (begS { st with left := st.left - blkN (lastP st).fs (lastP st).is }) (add (begS { st with left := st.left - blkN (lastP st).fs (lastP st).is }).file (lastP (begS { st with left := st.left - blkN (lastP st).fs (lastP st).is }))).1).2 := by unfold itemS; rw [if_neg hn, if_neg hc]
      obtain ⟨b, j1, j2, j3, j4, j5, j6⟩ := beg_try (add := add) (st := { st with left := st.left - blkN (lastP st).fs (lastP st).is }) h8 h.size (by show 0 ≤ st.left - _; omega) (by show st.left - _ ≤ sz; have := h.l1; omega) he
      rw [e]
      exact ⟨_, b, by rw [if_neg hn], j5, j1, j2, j3, j4, j6⟩
end Go.Proofs.YtopjkpopdffkeaaDoor
