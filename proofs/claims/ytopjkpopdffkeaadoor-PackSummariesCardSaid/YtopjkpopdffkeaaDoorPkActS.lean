/- The plan's acts: what holds after each of them, when each act keeps it. -/
import Derived.Test.YtopjkpopdffkeaaDoorPkRun
set_option linter.unusedVariables false
set_option linter.unusedSimpArgs false
namespace Go.Proofs.YtopjkpopdffkeaaDoor

/-- What an act is. -/
inductive IsAct (files : List FI) (inos : List Int) : (PkS → PkS) → Prop
  | l (i : Nat) (f : FI) (n : Int) (hf : files[i]? = some f) (hn : n ∈ f.ls) : IsAct files inos (stepL (i : Int) f n)
  | i (n : Int) (hn : n ∈ inos) : IsAct files inos (stepI n)
theorem actsF_mem {files : List FI} {inos : List Int} : ∀ (fs : List FI) (i : Nat), (∀ j f, fs[j]? = some f → files[i + j]? = some f) → ∀ g ∈ actsF i fs, IsAct files inos g
  | [], _, _, g, hg => by simp [actsF] at hg
  | f :: fs, i, h, g, hg => by
    rw [actsF] at hg
    rcases List.mem_append.1 hg with hg | hg
    · obtain ⟨n, hn, rfl⟩ := List.mem_map.1 hg
      exact .l i f n (h 0 f rfl) hn
    · exact actsF_mem fs (i + 1) (fun j f' hj => by rw [show i + 1 + j = i + (j + 1) by omega]; exact h (j + 1) f' hj) g hg
theorem actsA_mem {files : List FI} {inos : List Int} {g : PkS → PkS} (hg : g ∈ actsA files inos) : IsAct files inos g := by
  unfold actsA at hg
  rcases List.mem_append.1 hg with hg | hg
  · exact actsF_mem files 0 (fun j f h => by rwa [Nat.zero_add]) g hg
  · obtain ⟨n, hn, rfl⟩ := List.mem_map.1 hg
    exact .i n hn
theorem stepI_L {sz : Int} {st : PkS} {n : Int} (h8 : 8 ≤ sz) (h : JP sz st) (hl : JL st) : JL (stepI n st) := by
  rcases item_cases h8 h (empI n) with ⟨h1, h2, -, -, h5, h6⟩ | ⟨-, left, b, -, -, -, -, -, h6, -⟩
  · intro _ hf
    show (lastP (itemS (addI n) st)).fs ≠ []
    rw [h6]
    have hfe : (itemS (addI n) st).file = st.file := by rw [h5]
    exact hl h1 (by rw [← hfe]; exact hf)
  · intro _ hf
    have : (stepI n st).file = -1 := h6
    omega
/-- An act keeps what all of them need. -/
theorem act_J {files : List FI} {inos : List Int} {g : PkS → PkS} {sz : Int} {st : PkS} (hg : IsAct files inos g) (h8 : 8 ≤ sz) (h : JP sz st) (hl : JL st) : JP sz (g st) ∧ JL (g st) := by
  cases hg with
  | l i f n hf hn => exact ⟨(stepL_J h8 (Int.natCast_nonneg i) h hl).1, (stepL_J h8 (Int.natCast_nonneg i) h hl).2.1⟩
  | i n hn => exact ⟨stepI_J h8 h, stepI_L h8 h hl⟩
/-- What each act keeps is there at the end. -/
theorem goS_ind {files : List FI} {inos : List Int} {sz : Int} (h8 : 8 ≤ sz) (P : PkS → Prop) (hP : ∀ g st, IsAct files inos g → JP sz st → JL st → P st → P (g st)) :
    ∀ (gs : List (PkS → PkS)) (st sf : PkS), (∀ g ∈ gs, IsAct files inos g) → JP sz st → JL st → P st → goS gs st = some sf → JP sz sf ∧ JL sf ∧ P sf
  | [], st, sf, _, hJ, hL, hp, he => by
    simp only [goS, Option.some.injEq] at he
    subst he
    exact ⟨hJ, hL, hp⟩
  | g :: gs, st, sf, hg, hJ, hL, hp, he => by
    by_cases h : 64 < (g st).out.length
    · rw [goS_stop h] at he; cases he
    · rw [goS_step h] at he
      have ha := hg g (by simp)
      have hj := act_J ha h8 hJ hL
      exact goS_ind h8 P hP gs (g st) sf (fun x hx => hg x (by simp [hx])) hj.1 hj.2 (hP g st ha hJ hL hp) he
theorem start_J {left size : Int} (h0 : 0 ≤ left) (h1 : left ≤ size) : JP size (startS left size) ∧ JL (startS left size) := ⟨⟨rfl, h0, h1, fun h => absurd rfl h⟩, fun h => absurd rfl h⟩
/-- An item before all others begins a segment, if too few blocks are left. -/
theorem itemS_first (add : Int → PcP → PcP × Bool) {left size : Int} (h : left ≤ 2) (h0 : (0 : Int) ≤ 2 := by decide) : itemS add (startS left size) = itemS add (startS 0 size) := by
  have e : begS (startS left size) = begS (startS 0 size) := by
    unfold begS startS
    simp only [if_pos h, h]
    rfl
  unfold itemS
  rw [if_pos (show (startS left size).out = [] from rfl), if_pos (show (startS 0 size).out = [] from rfl), e]
theorem act_first {files : List FI} {inos : List Int} {g : PkS → PkS} (hg : IsAct files inos g) {left size : Int} (h : left ≤ 2) : g (startS left size) = g (startS 0 size) := by
  cases hg with
  | l i f n hf hn => unfold stepL; rw [itemS_first _ h]
  | i n hn => unfold stepI; rw [itemS_first _ h]
/-- The pieces of a plan with so few blocks left are those of a fresh segment. -/
theorem twice_out {files : List FI} {inos : List Int} {left size : Int} (h : left ≤ 2) : (goS (actsA files inos) (startS left size)).map PkS.out = (goS (actsA files inos) (startS 0 size)).map PkS.out := by
  have hm : ∀ g ∈ actsA files inos, IsAct files inos g := fun g hg => actsA_mem hg
  cases he : actsA files inos with
  | nil => rfl
  | cons g gs =>
    rw [he] at hm
    rw [goS, goS, act_first (hm g (by simp)) h]
theorem set_head {α : Type} {l : List α} (h : l ≠ []) (x : α) {d : α} {P : α → Prop} (h1 : P (l.headD d)) (h2 : l.length = 1 → P x) : P ((l.set (l.length - 1) x).headD d) := by
  match l, h with
  | [a], _ => exact h2 rfl
  | a :: b :: l, _ => simpa using h1
theorem add_nw (i : Int) (f : FI) (n : Int) (file : Int) (p : PcP) : (addL file i f n p).1.nw = p.nw := by
  unfold addL
  split <;> rfl
/-- The first piece begins a segment where too few blocks were left. -/
def FN (st : PkS) : Prop := (st.out = [] → st.left ≤ 2) ∧ (st.out ≠ [] → (st.out.headD ⟨false, [], []⟩).nw = true)
theorem item_FN {sz : Int} {st : PkS} {add : Int → PcP → PcP × Bool} (h8 : 8 ≤ sz) (h : JP sz st) (he : EmpOk add) (hn : ∀ file p, (add file p).1.nw = p.nw) (hF : FN st) : FN (itemS add st) := by
  rcases item_cases h8 h he with ⟨h1, -, -, -, h5, -⟩ | ⟨-, left, b, e1, e2, -, h5, -, -, -⟩
  · rw [h5]
    refine ⟨fun e => absurd e (set_ne h1 _ _), fun _ => ?_⟩
    refine set_head (P := fun q => q.nw = true) h1 _ (hF.2 h1) (fun hl => ?_)
    rw [hn]
    have := hF.2 h1
    unfold lastP
    match ho : st.out, hl with
    | [a], _ => rw [ho] at this; exact this
  · refine ⟨fun e => by rw [h5] at e; simp at e, fun _ => ?_⟩
    rw [h5]
    by_cases ho : st.out = []
    · rw [ho, List.nil_append]
      show (add (-1) ⟨b, [], []⟩).1.nw = true
      rw [hn, e2]
      rw [if_pos ho] at e1
      have := hF.1 ho
      simp [e1, this]
    · match hx : st.out, ho with
      | a :: l, _ =>
        have := hF.2 (by rw [hx]; simp)
        rw [hx] at this
        simpa using this
theorem twice_new {files : List FI} {inos : List Int} {left size : Int} (h8 : 8 ≤ size) (h0 : 0 ≤ left) (h : left ≤ 2) {st : PkS} (he : goS (actsA files inos) (startS left size) = some st) (hn : st.out ≠ []) : (st.out.headD ⟨false, [], []⟩).nw = true := by
  have hj := start_J (left := left) (size := size) h0 (by omega)
  refine (goS_ind h8 FN (fun g st hg hJ hL hF => ?_) _ _ st (fun g hg => actsA_mem (files := files) (inos := inos) hg) hj.1 hj.2 ⟨fun _ => h, fun e => absurd rfl e⟩ he).2.2.2 hn
  cases hg with
  | l i f n hf hn =>
    have := item_FN h8 hJ (empL (i : Int) (Int.natCast_nonneg i) f n) (add_nw (i : Int) f n) hF
    exact this
  | i n hn => exact item_FN h8 hJ (empI n) (fun _ _ => rfl) hF
end Go.Proofs.YtopjkpopdffkeaaDoor
