/- Each piece of a plan is a summary's, if each item may be one's. -/
import Derived.Test.YtopjkpopdffkeaaDoorPkBdS
import Derived.Test.YtopjkpopdffkeaaDoorSmCkW
set_option linter.unusedVariables false
set_option linter.unusedSimpArgs false
namespace Go.Proofs.YtopjkpopdffkeaaDoor

theorem item_sz {sz : Int} {st : PkS} {add : Int → PcP → PcP × Bool} (h8 : 8 ≤ sz) (h : JP sz st) (he : EmpOk add) (hF : ∀ p ∈ st.out, szN p.fs p.is ≤ 88) : ∀ p ∈ (itemS add st).out, szN p.fs p.is ≤ 88 := by
  rcases item_cases h8 h he with ⟨h1, -, hfit, -, h5, -⟩ | ⟨-, left, b, -, -, -, h5, -⟩
  · rw [h5]
    intro p hp
    rcases List.mem_or_eq_of_mem_set hp with hp | hp
    · exact hF p hp
    · rw [hp]; exact hfit.2
  · rw [h5]
    intro p hp
    rcases List.mem_append.1 hp with hp | hp
    · exact hF p hp
    · rw [List.mem_singleton.1 hp]; exact (he b).2
theorem plan_sz {files : List FI} {inos : List Int} {left size : Int} {st : PkS} (h8 : 8 ≤ size) (h0 : 0 ≤ left) (h1 : left ≤ size) (he : goS (actsA files inos) (startS left size) = some st) : ∀ p ∈ st.out, szN p.fs p.is ≤ 88 := by
  have hj := start_J (left := left) (size := size) h0 h1
  refine (goS_ind h8 (fun st => ∀ p ∈ st.out, szN p.fs p.is ≤ 88) (fun g st hg hJ hL hF => ?_) _ _ st (fun g hg => actsA_mem (files := files) (inos := inos) hg) hj.1 hj.2 (by simp [startS]) he).2.2
  cases hg with
  | l i f n hf hn => exact item_sz h8 hJ (empL (i : Int) (Int.natCast_nonneg i) f n) hF
  | i n hn => exact item_sz h8 hJ (empI n) hF
theorem goS_64 : ∀ (gs : List (PkS → PkS)) (st sf : PkS), st.out.length ≤ 64 → goS gs st = some sf → sf.out.length ≤ 64
  | [], st, sf, h, he => by
    simp only [goS, Option.some.injEq] at he
    rw [← he]; exact h
  | g :: gs, st, sf, h, he => by
    by_cases h64 : 64 < (g st).out.length
    · rw [goS_stop h64] at he; cases he
    · rw [goS_step h64] at he
      exact goS_64 gs (g st) sf (by omega) he
/-- A block alone may be a summary's. -/
def gdB (f : FI) (b : Int) : Prop := checkP 0 0 0 1 0 [⟨f.ino, f.ver, [b]⟩] [] = 0
theorem gdB_f {f : FI} {b : Int} (h : gdB f b) : gdF ⟨f.ino, f.ver, [b]⟩ := by
  unfold gdB checkP at h
  by_cases hg : gdP 0 0 0 1 0 [⟨f.ino, f.ver, [b]⟩] []
  · exact hg.2.1 _ (by simp)
  · rw [if_neg hg] at h; cases h
theorem blkF_mem {fs : List FI} {a v b : Int} (h : (a, v, b) ∈ blkF fs) : ∃ f ∈ fs, f.ino = a ∧ f.ver = v ∧ b ∈ f.ls := by
  obtain ⟨f, hf, h⟩ := List.mem_flatMap.1 h
  obtain ⟨n, hn, e⟩ := List.mem_map.1 h
  injection e with e1 e2
  injection e2 with e2 e3
  exact ⟨f, hf, e1, e2, e3 ▸ hn⟩
theorem mem_blkF {fs : List FI} {f : FI} {b : Int} (hf : f ∈ fs) (hb : b ∈ f.ls) : (f.ino, f.ver, b) ∈ blkF fs := List.mem_flatMap.2 ⟨f, hf, List.mem_map.2 ⟨b, hb, rfl⟩⟩
theorem piece_mem {files : List FI} {ps : List PcP} (h : blkL ps = blkF files) {p : PcP} (hp : p ∈ ps) {f : FI} (hf : f ∈ p.fs) {b : Int} (hb : b ∈ f.ls) : ∃ f' ∈ files, f'.ino = f.ino ∧ f'.ver = f.ver ∧ b ∈ f'.ls :=
  blkF_mem (by rw [← h]; exact List.mem_flatMap.2 ⟨p, hp, mem_blkF hf hb⟩)
theorem piece_ok {files : List FI} {inos : List Int} {left size : Int} {st : PkS} (h8 : 8 ≤ size) (h0 : 0 ≤ left) (h1 : left ≤ size) (he : goS (actsA files inos) (startS left size) = some st)
    (hf : ∀ f ∈ files, ∀ b ∈ f.ls, gdB f b) (hi : ∀ n ∈ inos, 1 ≤ n ∧ n ≤ 200) {i : Nat} {p : PcP} (hp : st.out[i]? = some p) : checkP 0 0 (i : Int) (st.out.length : Int) 0 p.fs p.is = 0 := by
  obtain ⟨r1, r2, r3⟩ := plan_all h8 h0 h1 he
  have hm := List.mem_of_getElem? hp
  have hlt := (List.getElem?_eq_some_iff.1 hp).1
  have h64 := goS_64 _ _ _ (Nat.zero_le _) he
  have hsz := plan_sz h8 h0 h1 he p hm
  have hlen := (r3 i p hp).len
  have hg : gdP 0 0 (i : Int) (st.out.length : Int) 0 p.fs p.is := by
    refine ⟨⟨⟨by decide, by decide⟩, ⟨by decide, by decide⟩, ⟨by omega, by omega⟩, ⟨by omega, by omega⟩, ⟨by decide, by decide⟩⟩, fun f hf' => ?_, fun n hn => hi n (by rw [← r2]; exact List.mem_flatMap.2 ⟨p, hm, hn⟩)⟩
    have hl := hlen f hf'
    have hone : ∀ b ∈ f.ls, gdF ⟨f.ino, f.ver, [b]⟩ := fun b hb => by
      obtain ⟨f', h1', e1, e2, hb'⟩ := piece_mem r1 hm hf' hb
      have := gdB_f (hf f' h1' b hb')
      rw [e1, e2] at this
      exact this
    obtain ⟨b0, hb0⟩ : ∃ b, b ∈ f.ls := by
      match h : f.ls, hl with
      | b :: l, _ => exact ⟨b, by simp⟩
    have g0 := hone b0 hb0
    refine ⟨g0.1, g0.2.1, ⟨by omega, by omega⟩, ?_⟩
    rw [List.any_eq_false]
    intro b hb
    have := (hone b hb).2.2.2
    simpa using this
  unfold checkP
  rw [if_pos hg, if_neg (by omega)]
theorem piece_64 {files : List FI} {ps : List PcP} (h : blkL ps = blkF files) (h64 : ∀ f ∈ files, ∀ x ∈ f.ls, I64 x) {p : PcP} (hp : p ∈ ps) : ∀ f ∈ p.fs, ∀ x ∈ f.ls, I64 x := fun f hf x hx => by
  obtain ⟨f', h1, -, -, h2⟩ := piece_mem h hp hf hx
  exact h64 f' h1 x h2
end Go.Proofs.YtopjkpopdffkeaaDoor
