/- The pieces of a plan hold what was handed in. -/
import Derived.Test.YtopjkpopdffkeaaDoorPkItS
set_option linter.unusedVariables false
set_option linter.unusedSimpArgs false
namespace Go.Proofs.YtopjkpopdffkeaaDoor

def blkF (fs : List FI) : List (Int × Int × Int) := fs.flatMap fun f => f.ls.map fun n => (f.ino, f.ver, n)
def blkL (ps : List PcP) : List (Int × Int × Int) := ps.flatMap fun p => blkF p.fs
def nodL (ps : List PcP) : List Int := ps.flatMap fun p => p.is
theorem blkF_app (a b : List FI) : blkF (a ++ b) = blkF a ++ blkF b := by simp [blkF]
theorem blkL_app (a b : List PcP) : blkL (a ++ b) = blkL a ++ blkL b := by simp [blkL]
theorem nodL_app (a b : List PcP) : nodL (a ++ b) = nodL a ++ nodL b := by simp [nodL]
def leftA (sz left : Int) (p : PcP) : Int := if p.nw then sz else left
def leftE (sz left : Int) : List PcP → Int
  | [] => left
  | p :: ps => leftE sz (leftA sz left p - blkN p.fs p.is) ps
theorem leftE_snoc (sz : Int) (p : PcP) : ∀ (ps : List PcP) (left : Int), leftE sz left (ps ++ [p]) = leftA sz (leftE sz left ps) p - blkN p.fs p.is
  | [], _ => rfl
  | q :: ps, left => by rw [List.cons_append, leftE, leftE, leftE_snoc sz p ps]
structure OkP (sz left : Int) (nd : List Int) (p : PcP) : Prop where
  len : ∀ f ∈ p.fs, 1 ≤ f.ls.length ∧ f.ls.length ≤ 30
  nod : p.fs ≠ [] → nd = []
  lo : 3 ≤ blkN p.fs p.is
  hi : (blkN p.fs p.is : Int) ≤ leftA sz left p
def OkA (sz left : Int) (ps : List PcP) : Prop := ∀ j p, ps[j]? = some p → OkP sz (leftE sz left (ps.take j)) (nodL (ps.take j)) p
theorem OkA.init {sz left : Int} {ps : List PcP} {p : PcP} (h : OkA sz left (ps ++ [p])) : OkA sz left ps ∧ OkP sz (leftE sz left ps) (nodL ps) p := by
  refine ⟨fun j q hq => ?_, ?_⟩
  · have hj := (List.getElem?_eq_some_iff.1 hq).1
    have := h j q (by rw [List.getElem?_append_left hj]; exact hq)
    rwa [List.take_append_of_le_length (by omega)] at this
  · have := h ps.length p (by rw [List.getElem?_append_right (Nat.le_refl _), Nat.sub_self]; rfl)
    rwa [List.take_left'  rfl] at this
theorem OkA.snoc {sz left : Int} {ps : List PcP} {p : PcP} (h : OkA sz left ps) (hp : OkP sz (leftE sz left ps) (nodL ps) p) : OkA sz left (ps ++ [p]) := by
  intro j q hq
  rcases Nat.lt_trichotomy j ps.length with hj | hj | hj
  · rw [List.getElem?_append_left hj] at hq
    rw [List.take_append_of_le_length (by omega)]
    exact h j q hq
  · subst hj
    rw [List.getElem?_append_right (Nat.le_refl _), Nat.sub_self] at hq
    injection hq with hq
    subst hq
    rw [List.take_left' rfl]
    exact hp
  · rw [List.getElem?_eq_none (by rw [List.length_append]; simp; omega)] at hq
    cases hq
def itB : It → List (Int × Int × Int)
  | .b _ f n => [(f.ino, f.ver, n)]
  | .v _ => []
def itV : It → List Int
  | .b _ _ _ => []
  | .v n => [n]
structure AllI (files : List FI) (sz left0 : Int) (done : List It) (st : PkS) : Prop where
  blocks : blkL st.out = done.flatMap itB
  nodes : nodL st.out = done.flatMap itV
  ok : OkA sz left0 st.out
  l0 : st.out = [] → st.left = left0
  l1 : st.out ≠ [] → st.left = leftA sz (leftE sz left0 st.out.dropLast) (lastP st)
  file : st.out ≠ [] → 0 ≤ st.file → ∃ i f, st.file = (i : Nat) ∧ files[i]? = some f ∧ (lastL (lastP st).fs).ino = f.ino ∧ (lastL (lastP st).fs).ver = f.ver
theorem lsN_pos {fs : List FI} (h : ∀ f ∈ fs, 1 ≤ f.ls.length) (hn : fs ≠ []) : 1 ≤ lsN fs := by
  match fs, hn with
  | f :: fs, _ =>
    have := h f (by simp)
    show 1 ≤ f.ls.length + sumN _
    omega
/-- An item whose piece grows, or that begins one. -/
theorem all_item {files : List FI} {sz left0 : Int} {done : List It} {st : PkS} {x : It} {add : Int → PcP → PcP × Bool} (h8 : 8 ≤ sz) (hJ : JP sz st) (he : EmpOk add) (hnw : ∀ file p, (add file p).1.nw = p.nw) (h : AllI files sz left0 done st)
    (hy : st.out ≠ [] → (add st.file (lastP st)).2 = true → (∀ f ∈ (lastP st).fs, 1 ≤ f.ls.length ∧ f.ls.length ≤ 30) → (∀ f ∈ (add st.file (lastP st)).1.fs, 1 ≤ f.ls.length ∧ f.ls.length ≤ 30) ∧ blkF (add st.file (lastP st)).1.fs = blkF (lastP st).fs ++ itB x ∧ (add st.file (lastP st)).1.is = (lastP st).is ++ itV x ∧
      ((add st.file (lastP st)).1.fs ≠ [] → (lastP st).fs ≠ [] ∨ done.flatMap itV = []))
    (hb : ∀ b, blkF (add (-1) ⟨b, [], []⟩).1.fs = itB x ∧ (add (-1) ⟨b, [], []⟩).1.is = itV x ∧ (∀ f ∈ (add (-1) ⟨b, [], []⟩).1.fs, 1 ≤ f.ls.length ∧ f.ls.length ≤ 30) ∧ ((add (-1) ⟨b, [], []⟩).1.fs ≠ [] → done.flatMap itV = []))
    (hB : ∀ p, 3 ≤ blkN p.fs p.is → st.out ≠ [] → (add st.file (lastP st)).2 = true → p = lastP st → 3 ≤ blkN (add st.file p).1.fs (add st.file p).1.is) :
    blkL (itemS add st).out = (done ++ [x]).flatMap itB ∧ nodL (itemS add st).out = (done ++ [x]).flatMap itV ∧ OkA sz left0 (itemS add st).out ∧ ((itemS add st).out ≠ []) ∧ (itemS add st).left = leftA sz (leftE sz left0 (itemS add st).out.dropLast) (lastP (itemS add st)) := by
  rw [List.flatMap_append, List.flatMap_append, List.flatMap_singleton, List.flatMap_singleton]
  rcases item_cases h8 hJ he with ⟨h1, h2, hfit, -, h5, h6⟩ | ⟨-, left, b, e1, e2, h3, h5, h6, -, h7⟩
  · have hs := split_lastP h1
    have hok := h.ok
    rw [hs] at hok
    obtain ⟨o1, o2⟩ := hok.init
    obtain ⟨y1, y2, y3, y4⟩ := hy h1 h2 o2.len
    have hB' := hB _ o2.lo h1 h2 rfl
    have hl1 := h.l1 h1
    have hbl := h.blocks
    have hnd := h.nodes
    have hnw := hnw st.file (lastP st)
    rw [h6, h5]
    dsimp only
    rw [set_lastQ h1]
    generalize (add st.file (lastP st)).1 = q at *
    refine ⟨?_, ?_, ?_, by simp, ?_⟩
    · rw [← hbl, hs, List.dropLast_concat, blkL_app, blkL_app, List.append_assoc]
      congr 1
      simp [blkL, y2]
    · rw [← hnd, hs, List.dropLast_concat, nodL_app, nodL_app, List.append_assoc]
      congr 1
      simp [nodL, y3]
    · refine o1.snoc ⟨y1, fun hq => ?_, hB', ?_⟩
      · rcases y4 hq with y4 | y4
        · exact o2.nod y4
        · rw [← hnd, hs, nodL_app] at y4
          exact (List.append_eq_nil_iff.1 y4).1
      · unfold leftA at hl1 ⊢
        rw [hnw, ← hl1]
        exact hfit.1
    · rw [List.dropLast_concat, hl1]
      unfold leftA
      rw [hnw]
  · obtain ⟨b1, b2, b3, b4⟩ := hb b
    have hbE := (he b).1
    have hnw := hnw (-1) ⟨b, [], []⟩
    have hle : leftE sz left0 st.out = left := by
      by_cases ho : st.out = []
      · rw [ho, e1, if_pos ho, ← h.l0 ho]; rfl
      · rw [split_lastP ho, leftE_snoc, e1, if_neg ho, ← h.l1 ho]
    have hlv : leftA sz left (add (-1) ⟨b, [], []⟩).1 = (itemS add st).left := by
      rw [h7]
      unfold leftA
      rw [hnw]
      dsimp only
      by_cases hc : left ≤ 2
      · rw [if_pos hc, if_pos (by simp [e2, hc])]
      · rw [if_neg hc, if_neg (by simp [e2, hc])]
    have hl3 := (h3.fit (by rw [h5]; simp)).1
    rw [h6, hbE] at hl3
    rw [h5, h6]
    generalize (add (-1) ⟨b, [], []⟩).1 = q at *
    refine ⟨?_, ?_, ?_, by simp, ?_⟩
    · rw [blkL_app, h.blocks]; congr 1; simp [blkL, b1]
    · rw [nodL_app, h.nodes]; congr 1; simp [nodL, b2]
    · refine h.ok.snoc ⟨b3, fun hq => by rw [h.nodes]; exact b4 hq, by rw [hbE]; exact Nat.le_refl _, ?_⟩
      rw [hle, hlv, hbE]
      exact hl3
    · rw [List.dropLast_concat, hle, hlv]
theorem lastL_mem {l : List FI} (h : l ≠ []) : lastL l ∈ l := by rw [split_lastL h]; simp [lastL_snoc]
theorem lsN_dropLast {l : List FI} (h : l ≠ []) : lsN l = lsN l.dropLast + (lastL l).ls.length := by
  conv => lhs; rw [split_lastL h]
  rw [lsN_app]
  simp [lsN, sumN]
theorem all_step {files : List FI} {inos : List Int} {sz left0 : Int} {done rest : List It} {st : PkS} {x : It} (h8 : 8 ≤ sz) (ha : itemsA files inos = done ++ x :: rest) (hJ : JP sz st) (hL : JL st) (h : AllI files sz left0 done st) : AllI files sz left0 (done ++ [x]) (actOf x st) := by
  cases x with
  | b i f n =>
    have hmem : It.b i f n ∈ itemsA files inos := by rw [ha]; simp
    obtain ⟨hf, hn⟩ := itemsA_b hmem
    have hdv : done.flatMap itV = [] := by
      rw [List.flatMap_eq_nil_iff]
      intro y hy
      have := before_b ha y hy
      cases y with
      | b _ _ _ => rfl
      | v _ => exact this.elim
    have hfile : st.out ≠ [] → st.file = (i : Int) → (lastP st).fs ≠ [] ∧ (lastL (lastP st).fs).ino = f.ino ∧ (lastL (lastP st).fs).ver = f.ver := fun ho hi => by
      have h0 : 0 ≤ st.file := by omega
      obtain ⟨i', f', e1, e2, e3, e4⟩ := h.file ho h0
      have : i' = i := by omega
      subst this
      rw [hf] at e2
      injection e2 with e2
      subst e2
      exact ⟨hL ho h0, e3, e4⟩
    have r := all_item (x := .b i f n) (add := fun file p => addL file i f n p) h8 hJ (empL (i : Int) (Int.natCast_nonneg i) f n) (add_nw (i : Int) f n) h
      (fun ho hok hlen => by
        rcases addL_yes (fun e => (hfile ho e).1) hok with ⟨e, h30, e2⟩ | ⟨e, e2⟩
        · obtain ⟨k1, k2, k3⟩ := hfile ho e
          rw [e2]
          refine ⟨fun g hg => ?_, ?_, by simp [itV], fun _ => .inl k1⟩
          · rcases List.mem_append.1 hg with hg | hg
            · exact hlen g (List.dropLast_subset _ hg)
            · rw [List.mem_singleton.1 hg]
              have := hlen _ (lastL_mem k1)
              show 1 ≤ ((lastL (lastP st).fs).ls ++ [n]).length ∧ ((lastL (lastP st).fs).ls ++ [n]).length ≤ 30
              rw [List.length_append, List.length_singleton]
              omega
          · show blkF ((lastP st).fs.dropLast ++ [_]) = _
            conv => rhs; rw [split_lastL k1]
            rw [blkF_app, blkF_app, List.append_assoc]
            congr 1
            simp [blkF, itB, k2, k3]
        · rw [e2]
          refine ⟨fun g hg => ?_, ?_, by simp [itV], fun _ => .inr hdv⟩
          · rcases List.mem_append.1 hg with hg | hg
            · exact hlen g hg
            · rw [List.mem_singleton.1 hg]; exact ⟨Nat.le_refl _, by show (1 : Nat) ≤ 30; decide⟩
          · show blkF ((lastP st).fs ++ [_]) = _
            rw [blkF_app]
            congr 1)
      (fun b => by
        rw [addL_emp (i : Int) (Int.natCast_nonneg i)]
        exact ⟨rfl, rfl, fun g hg => by rw [List.mem_singleton.1 hg]; exact ⟨Nat.le_refl _, by show (1 : Nat) ≤ 30; decide⟩, fun _ => hdv⟩)
      (fun p hp ho hok e => by
        subst e
        rcases addL_yes (fun e => (hfile ho e).1) hok with ⟨e, h30, e2⟩ | ⟨e, e2⟩
        · have hd := lsN_dropLast (hfile ho e).1
          rw [e2]
          unfold blkN at hp ⊢
          show 3 ≤ 2 + (lastP st).is.length + lsN ((lastP st).fs.dropLast ++ [_])
          rw [lsN_app]
          have : lsN [{ lastL (lastP st).fs with ls := (lastL (lastP st).fs).ls ++ [n] }] = (lastL (lastP st).fs).ls.length + 1 := by simp [lsN, sumN]
          omega
        · rw [e2]
          unfold blkN at hp ⊢
          show 3 ≤ 2 + (lastP st).is.length + lsN ((lastP st).fs ++ [_])
          rw [lsN_app]
          omega)
    obtain ⟨r1, r2, r3, r4, r5⟩ := r
    refine ⟨r1, r2, r3, fun e => absurd e r4, fun _ => r5, fun _ _ => ⟨i, f, rfl, hf, ?_⟩⟩
    show (lastL (lastP (itemS (fun file p => addL file i f n p) st)).fs).ino = f.ino ∧ (lastL (lastP (itemS (fun file p => addL file i f n p) st)).fs).ver = f.ver
    rcases item_cases h8 hJ (empL (i : Int) (Int.natCast_nonneg i) f n) with ⟨h1, h2, -, -, -, h6⟩ | ⟨-, left, b, -, -, -, -, h6, -⟩
    · rw [h6]
      rcases addL_yes (fun e => (hfile h1 e).1) h2 with ⟨e, h30, e2⟩ | ⟨e, e2⟩
      · rw [e2]
        dsimp only
        rw [lastL_snoc]
        exact (hfile h1 e).2
      · rw [e2]
        dsimp only
        rw [lastL_snoc]
        exact ⟨rfl, rfl⟩
    · rw [h6, addL_emp (i : Int) (Int.natCast_nonneg i)]
      exact ⟨rfl, rfl⟩
  | v n =>
    have r := all_item (x := .v n) (add := addI n) h8 hJ (empI n) (fun _ _ => rfl) h
      (fun ho hok hlen => ⟨hlen, by simp [itB, addI], rfl, fun e => .inl e⟩)
      (fun b => ⟨rfl, rfl, by simp [addI], fun e => absurd rfl e⟩)
      (fun p hp ho hok e => by
        unfold blkN at hp ⊢
        show 3 ≤ 2 + (p.is ++ [n]).length + lsN p.fs
        rw [List.length_append]
        omega)
    obtain ⟨r1, r2, r3, r4, r5⟩ := r
    refine ⟨r1, r2, r3, fun e => absurd e r4, fun _ => r5, ?_⟩
    show (itemS (addI n) st).out ≠ [] → 0 ≤ (itemS (addI n) st).file → ∃ i f, (itemS (addI n) st).file = (i : Nat) ∧ files[i]? = some f ∧ (lastL (lastP (itemS (addI n) st)).fs).ino = f.ino ∧ (lastL (lastP (itemS (addI n) st)).fs).ver = f.ver
    intro _ h0
    rcases item_cases h8 hJ (empI n) with ⟨h1, h2, -, -, h5, h6⟩ | ⟨-, left, b, -, -, -, -, h6, h7, -⟩
    · rw [h6]
      have hfe : (itemS (addI n) st).file = st.file := by rw [h5]
      rw [hfe] at h0 ⊢
      exact h.file h1 h0
    · omega
theorem items_blocks (files : List FI) (inos : List Int) : (itemsA files inos).flatMap itB = blkF files ∧ (itemsA files inos).flatMap itV = inos := by
  have h1 : ∀ (fs : List FI) (i : Nat), (itemsF i fs).flatMap itB = blkF fs ∧ (itemsF i fs).flatMap itV = [] := fun fs => by
    induction fs with
    | nil => intro i; exact ⟨rfl, rfl⟩
    | cons f fs ih =>
      intro i
      obtain ⟨i1, i2⟩ := ih (i + 1)
      rw [itemsF, List.flatMap_append, List.flatMap_append, i1, i2, List.flatMap_map, List.flatMap_map]
      refine ⟨?_, ?_⟩
      · show _ ++ blkF fs = blkF ([f] ++ fs)
        rw [blkF_app]
        congr 1
        have : ∀ l : List Int, l.flatMap (fun n => itB (.b i f n)) = l.map fun n => (f.ino, f.ver, n) := fun l => by
          induction l with
          | nil => rfl
          | cons a l ih => rw [List.flatMap_cons, ih]; rfl
        rw [this]
        simp [blkF]
      · rw [List.append_nil, List.flatMap_eq_nil_iff]
        intro n _
        rfl
  have h2 : ∀ l : List Int, (l.map It.v).flatMap itB = [] ∧ (l.map It.v).flatMap itV = l := fun l => by
    induction l with
    | nil => exact ⟨rfl, rfl⟩
    | cons a l ih => rw [List.map_cons, List.flatMap_cons, List.flatMap_cons, ih.1, ih.2]; exact ⟨rfl, rfl⟩
  unfold itemsA
  rw [List.flatMap_append, List.flatMap_append, (h1 files 0).1, (h1 files 0).2, (h2 inos).1, (h2 inos).2, List.append_nil, List.nil_append]
  exact ⟨rfl, rfl⟩
/-- The pieces: all of it, each one good. -/
theorem plan_all {files : List FI} {inos : List Int} {left size : Int} {st : PkS} (h8 : 8 ≤ size) (h0 : 0 ≤ left) (h1 : left ≤ size) (he : goS (actsA files inos) (startS left size) = some st) :
    blkL st.out = blkF files ∧ nodL st.out = inos ∧ OkA size left st.out := by
  rw [actsA_items] at he
  have hj := start_J h0 h1
  obtain ⟨-, -, r⟩ := goS_acc (all := itemsA files inos) h8 (AllI files size left) (fun done x rest st ha hJ hL hp => all_step h8 ha hJ hL hp) _ [] _ st rfl hj.1 hj.2
    ⟨rfl, rfl, by intro j p hp; exact absurd hp (by simp [startS]), fun _ => rfl, fun e => absurd rfl e, fun e => absurd rfl e⟩ he
  obtain ⟨e1, e2⟩ := items_blocks files inos
  exact ⟨r.blocks.trans e1, r.nodes.trans e2, r.ok⟩
end Go.Proofs.YtopjkpopdffkeaaDoor
