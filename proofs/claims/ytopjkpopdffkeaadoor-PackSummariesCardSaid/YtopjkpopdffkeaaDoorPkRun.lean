/- The plan, plainly: all items, one behind the other. -/
import Derived.Test.YtopjkpopdffkeaaDoorPkPlS
set_option linter.unusedVariables false
set_option linter.unusedSimpArgs false
namespace Go.Proofs.YtopjkpopdffkeaaDoor

def addI (n : Int) (_ : Int) (p : PcP) : PcP × Bool := ({ p with is := p.is ++ [n] }, true)
def stepL (i : Int) (f : FI) (n : Int) (st : PkS) : PkS := { itemS (fun file p => addL file i f n p) st with file := i }
def stepI (n : Int) (st : PkS) : PkS := itemS (addI n) st
def goS : List (PkS → PkS) → PkS → Option PkS
  | [], st => some st
  | g :: gs, st => if 64 < (g st).out.length then none else goS gs (g st)
def actsF (i : Nat) : List FI → List (PkS → PkS)
  | [] => []
  | f :: fs => f.ls.map (fun n => stepL (i : Int) f n) ++ actsF (i + 1) fs
def actsA (files : List FI) (inos : List Int) : List (PkS → PkS) := actsF 0 files ++ inos.map stepI
def startS (left size : Int) : PkS := ⟨[], left, size, -1⟩
/-- The last piece holds the file at hand. -/
def JL (st : PkS) : Prop := st.out ≠ [] → 0 ≤ st.file → (lastP st).fs ≠ []
theorem addL_fs {file i : Int} {f : FI} {n : Int} {p : PcP} (h : file = i → p.fs ≠ []) (hok : (addL file i f n p).2 = true) : (addL file i f n p).1.fs ≠ [] := by
  have hl : filesL file i f p ≠ [] := by
    unfold filesL
    split
    · exact h (by assumption)
    · simp
  unfold addL at hok ⊢
  split
  · rename_i h30; rw [if_pos h30] at hok; cases hok
  · exact set_ne hl _ _
theorem addL_emp (i : Int) (hi : 0 ≤ i) (f : FI) (n : Int) (b : Bool) : addL (-1) i f n ⟨b, [], []⟩ = (⟨b, [⟨f.ino, f.ver, [n]⟩], []⟩, true) := by
  have h1 : filesL (-1) i f ⟨b, [], []⟩ = [⟨f.ino, f.ver, []⟩] := by unfold filesL; rw [if_neg (by omega)]; rfl
  unfold addL
  rw [h1]
  rfl
theorem empL (i : Int) (hi : 0 ≤ i) (f : FI) (n : Int) : EmpOk (fun file p => addL file i f n p) := fun b => by
  show blkN (addL (-1) i f n ⟨b, [], []⟩).1.fs (addL (-1) i f n ⟨b, [], []⟩).1.is = 3 ∧ szN (addL (-1) i f n ⟨b, [], []⟩).1.fs (addL (-1) i f n ⟨b, [], []⟩).1.is ≤ 88
  rw [addL_emp i hi]
  exact ⟨rfl, by show (16 : Nat) ≤ 88; decide⟩
theorem empI (n : Int) : EmpOk (addI n) := fun b => ⟨rfl, by show (11 : Nat) ≤ 88; decide⟩
theorem stepL_J {sz : Int} {st : PkS} {i : Int} {f : FI} {n : Int} (h8 : 8 ≤ sz) (hi : 0 ≤ i) (h : JP sz st) (hl : JL st) : JP sz (stepL i f n st) ∧ JL (stepL i f n st) ∧ (stepL i f n st).file = i := by
  have hJ : JP sz (itemS (fun file p => addL file i f n p) st) ∧ (lastP (itemS (fun file p => addL file i f n p) st)).fs ≠ [] := by
    rcases item_cases h8 h (empL i hi f n) with ⟨h1, h2, -, h4, -, h6⟩ | ⟨-, left, b, -, -, h3, -, h5, -, -⟩
    · refine ⟨h4, ?_⟩
      rw [h6]
      exact addL_fs (fun e => hl h1 (by rw [e]; exact hi)) h2
    · refine ⟨h3, ?_⟩
      rw [h5]
      show (addL (-1) i f n ⟨b, [], []⟩).1.fs ≠ []
      rw [addL_emp i hi]
      simp
  exact ⟨⟨hJ.1.size, hJ.1.l0, hJ.1.l1, hJ.1.fit⟩, fun _ _ => hJ.2, rfl⟩
theorem stepI_J {sz : Int} {st : PkS} {n : Int} (h8 : 8 ≤ sz) (h : JP sz st) : JP sz (stepI n st) := by
  rcases item_cases h8 h (empI n) with ⟨-, -, -, h4, -⟩ | ⟨-, left, b, -, -, h3, -⟩
  · exact h4
  · exact h3
/-- What the walk of item asks of the last piece. -/
theorem JP.bd {sz : Int} {st : PkS} (h : JP sz st) : st.out ≠ [] → (lastP st).fs.length ≤ 10000 ∧ (lastP st).is.length ≤ 10000 ∧ lsN (lastP st).fs ≤ 10000 := fun hn => by
  have := (h.fit hn).2
  unfold szN at this
  omega
theorem goS_step {g : PkS → PkS} {gs : List (PkS → PkS)} {st : PkS} (h : ¬ 64 < (g st).out.length) : goS (g :: gs) st = goS gs (g st) := by rw [goS, if_neg h]
theorem goS_stop {g : PkS → PkS} {gs : List (PkS → PkS)} {st : PkS} (h : 64 < (g st).out.length) : goS (g :: gs) st = none := by rw [goS, if_pos h]
theorem actsF_drop {files : List FI} {i : Nat} {f : FI} (h : files[i]? = some f) : actsF i (files.drop i) = f.ls.map (fun n => stepL (i : Int) f n) ++ actsF (i + 1) (files.drop (i + 1)) := by
  have hi := (List.getElem?_eq_some_iff.1 h).1
  rw [List.drop_eq_getElem_cons hi]
  rw [List.getElem?_eq_getElem hi] at h
  injection h with h
  rw [h]
  rfl
theorem map_drop {α β : Type} {l : List α} {g : α → β} {j : Nat} {x : α} (h : l[j]? = some x) : (l.drop j).map g = g x :: (l.drop (j + 1)).map g := by
  have hj := (List.getElem?_eq_some_iff.1 h).1
  rw [List.drop_eq_getElem_cons hj]
  rw [List.getElem?_eq_getElem hj] at h
  injection h with h
  rw [h]
  rfl
end Go.Proofs.YtopjkpopdffkeaaDoor
