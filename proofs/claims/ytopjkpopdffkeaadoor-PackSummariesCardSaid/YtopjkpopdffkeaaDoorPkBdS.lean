/- How much the pieces of a plan hold. -/
import Derived.Test.YtopjkpopdffkeaaDoorPkAllS
set_option linter.unusedVariables false
set_option linter.unusedSimpArgs false
namespace Go.Proofs.YtopjkpopdffkeaaDoor

theorem blkF_len : ∀ fs : List FI, (blkF fs).length = lsN fs
  | [] => rfl
  | f :: fs => by
    have h : blkF (f :: fs) = (f.ls.map fun n => (f.ino, f.ver, n)) ++ blkF fs := rfl
    rw [h, List.length_append, List.length_map, blkF_len fs]
    rfl
theorem blkL_mem {ps : List PcP} {p : PcP} (h : p ∈ ps) : lsN p.fs ≤ (blkL ps).length ∧ p.is.length ≤ (nodL ps).length := by
  obtain ⟨a, b, rfl⟩ := List.append_of_mem h
  rw [show a ++ p :: b = a ++ ([p] ++ b) from rfl, blkL_app, blkL_app, nodL_app, nodL_app]
  simp only [List.length_append]
  have e1 : (blkL [p]).length = lsN p.fs := by rw [← blkF_len]; simp [blkL]
  have e2 : (nodL [p]).length = p.is.length := by simp [nodL]
  omega
theorem fs_len : ∀ {fs : List FI}, (∀ f ∈ fs, 1 ≤ f.ls.length) → fs.length ≤ lsN fs
  | [], _ => Nat.le_refl _
  | f :: fs, h => by
    have h1 := h f (by simp)
    have h2 := fs_len (fs := fs) (fun g hg => h g (by simp [hg]))
    show fs.length + 1 ≤ f.ls.length + lsN fs
    omega
theorem plan_bd {files : List FI} {inos : List Int} {left size : Int} {st : PkS} (h8 : 8 ≤ size) (h0 : 0 ≤ left) (h1 : left ≤ size) (he : goS (actsA files inos) (startS left size) = some st) :
    st.out.length ≤ lsN files + inos.length ∧ ∀ p ∈ st.out, p.fs.length ≤ lsN files ∧ p.is.length ≤ inos.length ∧ lsN p.fs ≤ lsN files ∧ ∀ f ∈ p.fs, 1 ≤ f.ls.length ∧ f.ls.length ≤ 30 := by
  obtain ⟨r1, r2, r3⟩ := plan_all h8 h0 h1 he
  refine ⟨?_, fun p hp => ?_⟩
  · rw [← blkF_len, ← r1, ← r2]
    have hk : ∀ p ∈ st.out, 3 ≤ blkN p.fs p.is := fun p hp => by
      obtain ⟨j, hj, e⟩ := List.getElem_of_mem hp
      exact (r3 j p (by rw [List.getElem?_eq_getElem hj, e])).lo
    clear r1 r2 r3 he
    generalize st.out = ps at *
    induction ps with
    | nil => exact Nat.zero_le _
    | cons p ps ih =>
      have h1 := ih (fun q hq => hk q (by simp [hq]))
      have h2 := hk p (by simp)
      have e1 : (blkL (p :: ps)).length = lsN p.fs + (blkL ps).length := by
        rw [show p :: ps = [p] ++ ps from rfl, blkL_app, List.length_append, ← blkF_len]; simp [blkL]
      have e2 : (nodL (p :: ps)).length = p.is.length + (nodL ps).length := by
        rw [show p :: ps = [p] ++ ps from rfl, nodL_app, List.length_append]; simp [nodL]
      unfold blkN at h2
      rw [e1, e2, List.length_cons]
      omega
  · obtain ⟨j, hj, e⟩ := List.getElem_of_mem hp
    have hl := (r3 j p (by rw [List.getElem?_eq_getElem hj, e])).len
    have hm := blkL_mem hp
    rw [r1, r2, blkF_len] at hm
    have := fs_len (fun f hf => (hl f hf).1)
    exact ⟨by omega, hm.2, hm.1, hl⟩
end Go.Proofs.YtopjkpopdffkeaaDoor
