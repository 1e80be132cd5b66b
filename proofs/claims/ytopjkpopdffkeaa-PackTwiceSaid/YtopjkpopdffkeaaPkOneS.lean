/- What fits into one piece is one. -/
import Derived.Test.YtopjkpopdffkeaaPkAllS
namespace Go.Proofs.Ytopjkpopdffkeaa

/-- How many blocks, how many inodes. -/
def nB : List It → Nat
  | [] => 0
  | .b _ _ _ :: l => nB l + 1
  | .v _ :: l => nB l
def nV : List It → Nat
  | [] => 0
  | .b _ _ _ :: l => nV l
  | .v _ :: l => nV l + 1
theorem nB_app : ∀ a b : List It, nB (a ++ b) = nB a + nB b
  | [], b => by simp [nB]
  | .b _ _ _ :: a, b => by rw [List.cons_append, nB, nB, nB_app a b]; omega
  | .v _ :: a, b => by rw [List.cons_append, nB, nB, nB_app a b]
theorem nV_app : ∀ a b : List It, nV (a ++ b) = nV a + nV b
  | [], b => by simp [nV]
  | .b _ _ _ :: a, b => by rw [List.cons_append, nV, nV, nV_app a b]
  | .v _ :: a, b => by rw [List.cons_append, nV, nV, nV_app a b]; omega
theorem nBV_len : ∀ a : List It, nB a + nV a = a.length
  | [] => rfl
  | .b _ _ _ :: a => by rw [nB, nV, List.length_cons]; have := nBV_len a; omega
  | .v _ :: a => by rw [nB, nV, List.length_cons]; have := nBV_len a; omega
def wordsN (b v : Nat) : Nat := 10 + v + if b = 0 then 0 else 4 + 2 * b
theorem wordsN_mono {b v b' v' : Nat} (h : b ≤ b') (k : v ≤ v') : wordsN b v ≤ wordsN b' v' := by
  unfold wordsN
  split <;> split <;> omega
/-- Of so many items. -/
structure OneP (b v : Nat) (p : PcP) : Prop where
  blk : blkN p.fs p.is = 2 + b + v
  sz : szN p.fs p.is = wordsN b v
  nil : b = 0 → p.fs = []
  one : b ≠ 0 → ∃ g, p.fs = [g] ∧ g.ls.length = b
structure OneI (size : Int) (done : List It) (st : PkS) : Prop where
  len : st.out.length ≤ done.length
  ne : done ≠ [] → st.out ≠ []
  emp : done = [] → st = startS size size
  file : st.out.length = 1 → nV done = 0 → st.file = 0
  one : st.out.length = 1 → st.left = size ∧ OneP (nB done) (nV done) (lastP st)
theorem one_emp {st : PkS} (h : st.out.length = 1) : st.out ≠ [] := by intro e; rw [e] at h; cases h
/-- What an item does while there is at most one piece. -/
theorem one_step {files : List FI} {inos : List Int} {size : Int} {done rest : List It} {st : PkS} {x : It} (h8 : 8 ≤ size) (hF : files.length ≤ 1) (h30 : ∀ f ∈ files, f.ls.length ≤ 30) (ha : itemsA files inos = done ++ x :: rest) (hJ : JP size st) (hL : JL st) (hbs : nB (itemsA files inos) ≤ 30) (h : OneI size done st) :
    OneI size (done ++ [x]) (actOf x st) ∧ ((done = [] ∨ st.out.length = 1) → (2 + nB (done ++ [x]) + nV (done ++ [x]) : Nat) ≤ size → wordsN (nB (done ++ [x])) (nV (done ++ [x])) ≤ 88 → (actOf x st).out.length = 1) := by
  have hst : st.out = [] → st = startS size size := fun ho => h.emp (by
    by_cases hd : done = []
    · exact hd
    · exact absurd ho (h.ne hd))
  cases x with
  | b i f n =>
    have hmem : It.b i f n ∈ itemsA files inos := by rw [ha]; simp
    obtain ⟨hf, -⟩ := itemsA_b hmem
    have hi0 : i = 0 := by have := (List.getElem?_eq_some_iff.1 hf).1; omega
    subst hi0
    have hB1 : nB (done ++ [.b 0 f n]) = nB done + 1 := by rw [nB_app]; rfl
    have hV1 : nV (done ++ [.b 0 f n]) = nV done := by rw [nV_app]; rfl
    have hdV : nV done = 0 := by
      have hb := before_b ha
      clear ha h hmem hB1 hV1
      induction done with
      | nil => rfl
      | cons y l ih =>
        cases y with
        | b _ _ _ => rw [nV]; exact ih (fun x hx => hb x (by simp [hx]))
        | v m => exact (hb (.v m) (by simp)).elim
    have hdB : nB done + 1 ≤ 30 := by
      rw [ha, show done ++ It.b 0 f n :: rest = (done ++ [.b 0 f n]) ++ rest by simp, nB_app, hB1] at hbs
      omega
    rw [hB1, hV1]
    have hlen : (done ++ [It.b 0 f n]).length = done.length + 1 := by simp
    have hJe : JP size (stepL ((0 : Nat) : Int) f n st) := (stepL_J h8 (Int.natCast_nonneg 0) hJ hL).1
    show OneI size _ (stepL ((0 : Nat) : Int) f n st) ∧ (_ → _ → _ → (stepL ((0 : Nat) : Int) f n st).out.length = 1)
    have hfl : (stepL ((0 : Nat) : Int) f n st).file = 0 := rfl
    have ho : (stepL ((0 : Nat) : Int) f n st).out = (itemS (fun file p => addL file ((0 : Nat) : Int) f n p) st).out := rfl
    have hle : (stepL ((0 : Nat) : Int) f n st).left = (itemS (fun file p => addL file ((0 : Nat) : Int) f n p) st).left := rfl
    have hla : lastP (stepL ((0 : Nat) : Int) f n st) = lastP (itemS (fun file p => addL file ((0 : Nat) : Int) f n p) st) := rfl
    rcases item_cases h8 hJ (empL ((0 : Nat) : Int) (Int.natCast_nonneg 0) f n) with ⟨h1, h2, hfit, -, h5, h6⟩ | ⟨hno, left, b, e1, e2, h3, h5, h6, -, h7⟩
    · have hl5 : (itemS (fun file p => addL file ((0 : Nat) : Int) f n p) st).out.length = st.out.length := by rw [h5]; simp
      have hdone : done ≠ [] := fun e => by rw [h.emp e] at h1; exact h1 rfl
      refine ⟨⟨by rw [ho, hl5, hlen]; have := h.len; omega, fun _ => by rw [ho, h5]; exact set_ne h1 _ _, fun e => by simp at e, fun _ _ => hfl, fun hone => ?_⟩, fun hc _ _ => by rw [ho, hl5]; exact hc.resolve_left hdone⟩
      rw [ho, hl5] at hone
      obtain ⟨o1, o2⟩ := h.one hone
      refine ⟨by rw [hle, h5]; exact o1, ?_⟩
      rw [hla, h6, hB1, hV1]
      have hfile := h.file hone hdV
      have hb0 : nB done ≠ 0 := by
        have := nBV_len done
        have := List.length_pos_iff.2 hdone
        omega
      obtain ⟨g, hg, hgl⟩ := o2.one hb0
      rcases addL_yes (fun e => by rw [hg]; simp) h2 with ⟨e, -, e3⟩ | ⟨e, -⟩
      · rw [e3, hg]
        have hl : lastL [g] = g := rfl
        rw [hl]
        have ob := o2.blk
        have os := o2.sz
        rw [hg] at ob os
        have s1 : ∀ z : FI, lsN [z] = z.ls.length := fun z => by simp [lsN, sumN]
        have c1 : wordsN (nB done + 1) (nV done) = wordsN (nB done) (nV done) + 2 := by unfold wordsN; rw [if_neg hb0, if_neg (by omega)]; omega
        have s2 : lsN [{ g with ls := g.ls ++ [n] }] = g.ls.length + 1 := by simp [lsN, sumN]
        refine ⟨?_, ?_, fun e => by omega, fun _ => ⟨_, rfl, by show (g.ls ++ [n]).length = _; rw [List.length_append, hgl]; rfl⟩⟩
        · show blkN [{ g with ls := g.ls ++ [n] }] (lastP st).is = _
          unfold blkN at ob ⊢
          rw [s1] at ob
          rw [s2]; omega
        · show szN [{ g with ls := g.ls ++ [n] }] (lastP st).is = _
          unfold szN at os ⊢
          rw [s1] at os
          rw [s2, c1, ← os]
          simp only [List.length_singleton]
          omega
      · exact absurd hfile e
    · have hl5 : (itemS (fun file p => addL file ((0 : Nat) : Int) f n p) st).out.length = st.out.length + 1 := by rw [h5]; simp
      refine ⟨⟨by rw [ho, hl5, hlen]; have := h.len; omega, fun _ => by rw [ho, h5]; simp, fun e => by simp at e, fun _ _ => hfl, fun hone => ?_⟩, fun hc k1 k2 => ?_⟩
      · rw [ho, hl5] at hone
        have hnil : st.out = [] := List.eq_nil_of_length_eq_zero (by omega)
        have hs := hst hnil
        have hdn : done = [] := by
          by_cases hd : done = []
          · exact hd
          · exact absurd hnil (h.ne hd)
        have hleft : left = size := by rw [e1, if_pos hnil, hs]; rfl
        refine ⟨by rw [hle, h7, hleft, if_neg (by omega)], ?_⟩
        rw [hla, h6, hdn]
        rw [show addL (-1) ((0 : Nat) : Int) f n ⟨b, [], []⟩ = (⟨b, [⟨f.ino, f.ver, [n]⟩], []⟩, true) from addL_emp _ (Int.natCast_nonneg 0) f n b]
        exact ⟨rfl, rfl, (fun e => by cases e), fun _ => ⟨_, rfl, rfl⟩⟩
      · rw [ho, hl5]
        rcases hc with hc | hc
        · rw [h.emp hc]; rfl
        · exfalso
          have h1 := one_emp hc
          obtain ⟨o1, o2⟩ := h.one hc
          have hfile := h.file hc hdV
          have hb0 : nB done ≠ 0 := by
            have := nBV_len done
            have hdone : done ≠ [] := fun e => by rw [h.emp e] at h1; exact h1 rfl
            have := List.length_pos_iff.2 hdone
            omega
          obtain ⟨g, hg, hgl⟩ := o2.one hb0
          have hl : lastL [g] = g := rfl
          have h2 : (addL st.file ((0 : Nat) : Int) f n (lastP st)).2 = true := by
            by_cases hy : (addL st.file ((0 : Nat) : Int) f n (lastP st)).2 = true
            · exact hy
            · have := (addL_no hy).2
              rw [hg, hl] at this
              omega
          refine hno ⟨h1, h2, ?_⟩
          rcases addL_yes (fun e => by rw [hg]; simp) h2 with ⟨e, -, e3⟩ | ⟨e, -⟩
          · rw [e3, hg, hl]
            have ob := o2.blk
            have os := o2.sz
            rw [hg] at ob os
            have s1 : ∀ z : FI, lsN [z] = z.ls.length := fun z => by simp [lsN, sumN]
            have c1 : wordsN (nB done + 1) (nV done) = wordsN (nB done) (nV done) + 2 := by unfold wordsN; rw [if_neg hb0, if_neg (by omega)]; omega
            have s2 : lsN [{ g with ls := g.ls ++ [n] }] = g.ls.length + 1 := by simp [lsN, sumN]
            unfold blkN at ob
            unfold szN at os
            rw [s1] at ob os
            refine ⟨?_, ?_⟩
            · show ((blkN [{ g with ls := g.ls ++ [n] }] (lastP st).is : Nat) : Int) ≤ st.left
              unfold blkN
              rw [s2, o1]; omega
            · show szN [{ g with ls := g.ls ++ [n] }] (lastP st).is ≤ 88
              unfold szN
              rw [s2]
              simp only [List.length_singleton] at os ⊢
              omega
          · exact absurd hfile e
  | v n =>
    have hB1 : nB (done ++ [.v n]) = nB done := by rw [nB_app]; rfl
    have hV1 : nV (done ++ [.v n]) = nV done + 1 := by rw [nV_app]; rfl
    rw [hB1, hV1]
    have hlen : (done ++ [It.v n]).length = done.length + 1 := by simp
    have c1 : wordsN (nB done) (nV done + 1) = wordsN (nB done) (nV done) + 1 := by unfold wordsN; omega
    have grow : ∀ p : PcP, OneP (nB done) (nV done) p → OneP (nB done) (nV done + 1) (addI n st.file p).1 := fun p o => by
      refine ⟨?_, ?_, o.nil, o.one⟩
      · have := o.blk
        show blkN p.fs (p.is ++ [n]) = _
        unfold blkN at this ⊢
        rw [List.length_append, List.length_singleton]
        omega
      · have := o.sz
        show szN p.fs (p.is ++ [n]) = _
        rw [c1]
        unfold szN at this ⊢
        rw [List.length_append, List.length_singleton]
        omega
    show OneI size _ (itemS (addI n) st) ∧ (_ → _ → _ → (itemS (addI n) st).out.length = 1)
    rcases item_cases h8 hJ (empI n) with ⟨h1, h2, hfit, -, h5, h6⟩ | ⟨hno, left, b, e1, e2, h3, h5, h6, -, h7⟩
    · have hl5 : (itemS (addI n) st).out.length = st.out.length := by rw [h5]; simp
      have hdone : done ≠ [] := fun e => by rw [h.emp e] at h1; exact h1 rfl
      refine ⟨⟨by rw [hl5, hlen]; have := h.len; omega, fun _ => by rw [h5]; exact set_ne h1 _ _, fun e => by simp at e, fun _ e => by rw [hV1] at e; omega, fun hone => ?_⟩, fun hc _ _ => by rw [hl5]; exact hc.resolve_left hdone⟩
      rw [hl5] at hone
      obtain ⟨o1, o2⟩ := h.one hone
      refine ⟨by rw [h5]; exact o1, ?_⟩
      rw [h6, hB1, hV1]
      exact grow _ o2
    · have hl5 : (itemS (addI n) st).out.length = st.out.length + 1 := by rw [h5]; simp
      refine ⟨⟨by rw [hl5, hlen]; have := h.len; omega, fun _ => by rw [h5]; simp, fun e => by simp at e, fun _ e => by rw [hV1] at e; omega, fun hone => ?_⟩, fun hc k1 k2 => ?_⟩
      · rw [hl5] at hone
        have hnil : st.out = [] := List.eq_nil_of_length_eq_zero (by omega)
        have hs := hst hnil
        have hdn : done = [] := by
          by_cases hd : done = []
          · exact hd
          · exact absurd hnil (h.ne hd)
        have hleft : left = size := by rw [e1, if_pos hnil, hs]; rfl
        refine ⟨by rw [h7, hleft, if_neg (by omega)], ?_⟩
        rw [h6, hdn]
        exact ⟨rfl, rfl, fun _ => rfl, fun e => absurd rfl e⟩
      · rw [hl5]
        rcases hc with hc | hc
        · rw [h.emp hc]; rfl
        · exfalso
          have h1 := one_emp hc
          obtain ⟨o1, o2⟩ := h.one hc
          have g := grow _ o2
          refine hno ⟨h1, rfl, ?_, ?_⟩
          · rw [g.blk, o1]; omega
          · rw [g.sz]; exact k2
theorem goS_some : ∀ (xs : List It) (st : PkS) (P : List It → PkS → Prop) (done : List It), (∀ d x rest s, done ++ xs = d ++ x :: rest → P d s → P (d ++ [x]) (actOf x s)) → (∀ d s, d.length ≤ (done ++ xs).length → P d s → s.out.length ≤ 64) → P done st → ∃ sf, goS (xs.map actOf) st = some sf ∧ P (done ++ xs) sf
  | [], st, P, done, _, _, hp => ⟨st, rfl, by rwa [List.append_nil]⟩
  | x :: xs, st, P, done, hs, hl, hp => by
    have h1 := hs done x xs st rfl hp
    have h2 := hl (done ++ [x]) _ (by simp) h1
    rw [List.map_cons, goS_step (by omega)]
    obtain ⟨sf, e, r⟩ := goS_some xs (actOf x st) P (done ++ [x]) (fun d y rest s e hd => hs d y rest s (by rw [← e]; simp) hd) (fun d s hd h => hl d s (by simpa using hd) h) h1
    exact ⟨sf, e, by simpa using r⟩
theorem plan_one {files : List FI} {inos : List Int} {size : Int} (h8 : 8 ≤ size) (hF : files.length ≤ 1) (h30 : ∀ f ∈ files, f.ls.length ≤ 30) (hbs : nB (itemsA files inos) ≤ 30) (hsm : (itemsA files inos).length ≤ 64) :
    ∃ st, goS (actsA files inos) (startS size size) = some st ∧ (st.out.length = 0 ↔ nB (itemsA files inos) + nV (itemsA files inos) = 0) ∧
      (st.out.length ≤ 1 ↔ ((2 + nB (itemsA files inos) + nV (itemsA files inos) : Nat) : Int) ≤ size ∧ wordsN (nB (itemsA files inos)) (nV (itemsA files inos)) ≤ 88 ∨ nB (itemsA files inos) + nV (itemsA files inos) = 0) := by
  rw [actsA_items]
  have hj := start_J (left := size) (size := size) (by omega) (Int.le_refl _)
  obtain ⟨sf, he, hr⟩ := goS_some (itemsA files inos) (startS size size) (fun d s => (∃ rest, itemsA files inos = d ++ rest) ∧ JP size s ∧ JL s ∧ OneI size d s ∧ (d ≠ [] → (2 + nB d + nV d : Nat) ≤ size → wordsN (nB d) (nV d) ≤ 88 → s.out.length = 1)) []
    (fun d x rest s e hd => by
      obtain ⟨-, j1, j2, o1, o2⟩ := hd
      rw [List.nil_append] at e
      have hj := actOf_J (x := x) h8 j1 j2
      obtain ⟨r1, r2⟩ := one_step h8 hF h30 e j1 j2 hbs o1
      refine ⟨⟨rest, by rw [e]; simp⟩, hj.1, hj.2, r1, fun _ k1 k2 => r2 ?_ k1 k2⟩
      by_cases hd : d = []
      · exact .inl hd
      · have a1 : nB d ≤ nB (d ++ [x]) := by rw [nB_app]; omega
        have a2 : nV d ≤ nV (d ++ [x]) := by rw [nV_app]; omega
        exact .inr (o2 hd (by omega) (Nat.le_trans (wordsN_mono a1 a2) k2)))
    (fun d s hd h => by
      obtain ⟨⟨rest, e⟩, -, -, o1, -⟩ := h
      have := o1.len
      have : d.length ≤ (itemsA files inos).length := by rw [e, List.length_append]; omega
      omega)
    ⟨⟨_, rfl⟩, hj.1, hj.2, ⟨Nat.zero_le _, fun e => absurd rfl e, fun _ => rfl, (fun e => by cases e), (fun e => by cases e)⟩, fun e => absurd rfl e⟩
  obtain ⟨-, j1, j2, o1, o2⟩ := hr
  rw [List.nil_append] at *
  have hlen := nBV_len (itemsA files inos)
  generalize itemsA files inos = all at *
  refine ⟨sf, he, ⟨fun h0 => ?_, fun h0 => ?_⟩, fun h1 => ?_, fun h1 => ?_⟩
  · by_cases ha : all = []
    · rw [ha]; rfl
    · have := List.length_pos_iff.2 (o1.ne ha); omega
  · have := o1.emp (List.eq_nil_of_length_eq_zero (by omega))
    rw [this]; rfl
  · by_cases h0 : sf.out.length = 0
    · refine .inr ?_
      by_cases ha : all = []
      · rw [ha]; rfl
      · have := List.length_pos_iff.2 (o1.ne ha); omega
    · have h1' : sf.out.length = 1 := by omega
      obtain ⟨l1, l2⟩ := o1.one h1'
      have hf := j1.fit (one_emp h1')
      refine .inl ⟨?_, ?_⟩
      · rw [← l2.blk, ← l1]; exact hf.1
      · rw [← l2.sz]; exact hf.2
  · rcases h1 with ⟨k1, k2⟩ | h0
    · by_cases ha : all = []
      · rw [o1.emp ha]; exact Nat.zero_le _
      · rw [o2 ha k1 k2]; exact Nat.le_refl _
    · rw [o1.emp (List.eq_nil_of_length_eq_zero (by omega))]; exact Nat.zero_le _
end Go.Proofs.Ytopjkpopdffkeaa
