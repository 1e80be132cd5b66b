/- The items of a plan, one by one. -/
import Derived.Test.YtopjkpopdffkeaaDoorPkActS
set_option linter.unusedVariables false
set_option linter.unusedSimpArgs false
namespace Go.Proofs.YtopjkpopdffkeaaDoor

/-- A block of the i-th file, or an inode. -/
inductive It
  | b (i : Nat) (f : FI) (n : Int)
  | v (n : Int)
def actOf : It → PkS → PkS
  | .b i f n => stepL (i : Int) f n
  | .v n => stepI n
def itemsF (i : Nat) : List FI → List It
  | [] => []
  | f :: fs => f.ls.map (It.b i f) ++ itemsF (i + 1) fs
def itemsA (files : List FI) (inos : List Int) : List It := itemsF 0 files ++ inos.map It.v
theorem actsF_items : ∀ (fs : List FI) (i : Nat), actsF i fs = (itemsF i fs).map actOf
  | [], _ => rfl
  | f :: fs, i => by
    rw [actsF, itemsF, List.map_append, ← actsF_items fs (i + 1), List.map_map]
    rfl
theorem actsA_items (files : List FI) (inos : List Int) : actsA files inos = (itemsA files inos).map actOf := by
  unfold actsA itemsA
  rw [List.map_append, actsF_items, List.map_map]
  rfl
def It.isB : It → Prop
  | .b _ _ _ => True
  | .v _ => False
theorem itemsF_b : ∀ (fs : List FI) (i : Nat), ∀ x ∈ itemsF i fs, ∃ j f n, x = .b j f n ∧ i ≤ j ∧ fs[j - i]? = some f ∧ n ∈ f.ls
  | [], _, x, h => by simp [itemsF] at h
  | f :: fs, i, x, h => by
    rw [itemsF] at h
    rcases List.mem_append.1 h with h | h
    · obtain ⟨n, hn, rfl⟩ := List.mem_map.1 h
      exact ⟨i, f, n, rfl, Nat.le_refl _, by simp, hn⟩
    · obtain ⟨j, f', n, rfl, hj, hf, hn⟩ := itemsF_b fs (i + 1) x h
      refine ⟨j, f', n, rfl, by omega, ?_, hn⟩
      rw [show j - i = (j - (i + 1)) + 1 by omega]
      exact hf
theorem itemsA_b {files : List FI} {inos : List Int} {i : Nat} {f : FI} {n : Int} (h : It.b i f n ∈ itemsA files inos) : files[i]? = some f ∧ n ∈ f.ls := by
  rcases List.mem_append.1 h with h | h
  · obtain ⟨j, f', n', e, -, hf, hn⟩ := itemsF_b files 0 _ h
    injection e with e1 e2 e3
    subst e1 e2 e3
    exact ⟨hf, hn⟩
  · obtain ⟨x, -, e⟩ := List.mem_map.1 h
    cases e
theorem itemsA_sorted (files : List FI) (inos : List Int) : (itemsA files inos).Pairwise fun a c => c.isB → a.isB := by
  unfold itemsA
  rw [List.pairwise_append]
  have hb : ∀ x ∈ itemsF 0 files, x.isB := fun x hx => by
    obtain ⟨j, f, n, rfl, -⟩ := itemsF_b files 0 x hx
    trivial
  refine ⟨?_, ?_, fun a ha _ _ _ => hb a ha⟩
  · refine List.Pairwise.imp_of_mem (R := fun _ _ => True) (fun ha _ _ _ => hb _ ha) ?_
    rw [List.pairwise_iff_forall_sublist]
    intros; trivial
  · rw [List.pairwise_map]
    refine List.Pairwise.imp_of_mem (R := fun _ _ => True) (fun _ _ _ h => h.elim) ?_
    rw [List.pairwise_iff_forall_sublist]
    intros; trivial
/-- Ahead of a block there are blocks alone. -/
theorem before_b {files : List FI} {inos : List Int} {done rest : List It} {i : Nat} {f : FI} {n : Int} (h : itemsA files inos = done ++ .b i f n :: rest) : ∀ x ∈ done, x.isB := by
  have hp := itemsA_sorted files inos
  rw [h, List.pairwise_append] at hp
  exact fun x hx => hp.2.2 x hx (.b i f n) (by simp) trivial
theorem actOf_J {x : It} {sz : Int} {st : PkS} (h8 : 8 ≤ sz) (h : JP sz st) (hl : JL st) : JP sz (actOf x st) ∧ JL (actOf x st) := by
  cases x with
  | b i f n => exact ⟨(stepL_J h8 (Int.natCast_nonneg i) h hl).1, (stepL_J h8 (Int.natCast_nonneg i) h hl).2.1⟩
  | v n => exact ⟨stepI_J h8 h, stepI_L h8 h hl⟩
/-- What each item keeps, with the items that are done. -/
theorem goS_acc {all : List It} {sz : Int} (h8 : 8 ≤ sz) (P : List It → PkS → Prop) (hP : ∀ done x rest st, all = done ++ x :: rest → JP sz st → JL st → P done st → P (done ++ [x]) (actOf x st)) :
    ∀ (gs done : List It) (st sf : PkS), all = done ++ gs → JP sz st → JL st → P done st → goS (gs.map actOf) st = some sf → JP sz sf ∧ JL sf ∧ P all sf
  | [], done, st, sf, ha, hJ, hL, hp, he => by
    simp only [List.map_nil, goS, Option.some.injEq] at he
    subst he
    rw [ha, List.append_nil]
    exact ⟨hJ, hL, hp⟩
  | x :: gs, done, st, sf, ha, hJ, hL, hp, he => by
    rw [List.map_cons] at he
    by_cases h : 64 < (actOf x st).out.length
    · rw [goS_stop h] at he; cases he
    · rw [goS_step h] at he
      have hj := actOf_J (x := x) h8 hJ hL
      exact goS_acc h8 P hP gs (done ++ [x]) (actOf x st) sf (by rw [ha, List.append_assoc]; rfl) hj.1 hj.2 (hP done x gs st ha hJ hL hp) he
/-- The last one apart. -/
theorem split_lastP {st : PkS} (h : st.out ≠ []) : st.out = st.out.dropLast ++ [lastP st] := by
  have := List.dropLast_concat_getLast h
  unfold lastP
  rw [List.getLastD_eq_getLast?, List.getLast?_eq_some_getLast h]
  exact this.symm
theorem set_lastQ {α : Type} {l : List α} (h : l ≠ []) (x : α) : l.set (l.length - 1) x = l.dropLast ++ [x] := by
  conv => lhs; rw [← List.dropLast_concat_getLast h]
  rw [List.length_append, List.length_singleton, Nat.add_sub_cancel, List.set_append_right _ _ (Nat.le_refl _), Nat.sub_self]
  rfl
theorem split_lastL {l : List FI} (h : l ≠ []) : l = l.dropLast ++ [lastL l] := by
  have := List.dropLast_concat_getLast h
  unfold lastL
  rw [List.getLastD_eq_getLast?, List.getLast?_eq_some_getLast h]
  exact this.symm
theorem lastL_snoc (l : List FI) (f : FI) : lastL (l ++ [f]) = f := by
  unfold lastL
  rw [List.getLastD_eq_getLast?, List.getLast?_append]
  rfl
/-- What adding a block to a piece yields. -/
theorem addL_yes {file i : Int} {f : FI} {n : Int} {p : PcP} (hne : file = i → p.fs ≠ []) (hok : (addL file i f n p).2 = true) :
    (file = i ∧ (lastL p.fs).ls.length ≠ 30 ∧ (addL file i f n p).1 = { p with fs := p.fs.dropLast ++ [{ lastL p.fs with ls := (lastL p.fs).ls ++ [n] }] }) ∨ (file ≠ i ∧ (addL file i f n p).1 = { p with fs := p.fs ++ [⟨f.ino, f.ver, [n]⟩] }) := by
  unfold addL at hok ⊢
  by_cases h30 : (lastL (filesL file i f p)).ls.length = 30
  · rw [if_pos h30] at hok; cases hok
  · rw [if_neg h30]
    by_cases hf : file = i
    · have e : filesL file i f p = p.fs := by unfold filesL; rw [if_pos hf]
      rw [e] at h30 ⊢
      exact .inl ⟨hf, h30, by rw [set_lastQ (hne hf)]⟩
    · have e : filesL file i f p = p.fs ++ [⟨f.ino, f.ver, []⟩] := by unfold filesL; rw [if_neg hf]
      rw [e]
      refine .inr ⟨hf, ?_⟩
      rw [set_lastQ (by simp), lastL_snoc, List.dropLast_concat]
      rfl
theorem addL_no {file i : Int} {f : FI} {n : Int} {p : PcP} (h : ¬ (addL file i f n p).2 = true) : file = i ∧ (lastL p.fs).ls.length = 30 := by
  unfold addL at h
  by_cases h30 : (lastL (filesL file i f p)).ls.length = 30
  · by_cases hf : file = i
    · have e : filesL file i f p = p.fs := by unfold filesL; rw [if_pos hf]
      rw [e] at h30
      exact ⟨hf, h30⟩
    · have e : filesL file i f p = p.fs ++ [⟨f.ino, f.ver, []⟩] := by unfold filesL; rw [if_neg hf]
      rw [e, lastL_snoc] at h30
      cases h30
  · rw [if_neg h30] at h
    exact absurd rfl h
end Go.Proofs.YtopjkpopdffkeaaDoor
