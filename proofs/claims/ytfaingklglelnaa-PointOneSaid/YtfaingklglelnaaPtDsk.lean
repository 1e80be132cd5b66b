/- Disks with points, in plain lists: the block that counts; points saved one by one; a crash within a save. -/
import Derived.Test.YtfaingklglelnaaPtSavW
import Derived.Test.YtfaingklglelnaaPtL
import Derived.Test.YtfaingklglelnaaCrMix
namespace Go.Proofs.Ytfaingklglelnaa
open Go.RowKit

theorem counts_two {D : Dsk} (h : 2 < D.sure.length) : countsP D = cntStep 2 (decP (D.read 2)) (cntStep 1 (decP (D.read 1)) (0, pt0)) := by
  unfold countsP; rw [if_pos h]; rfl
theorem counts_same {D D' : Dsk} (h : D'.sure.length = D.sure.length) (h1 : D'.read 1 = D.read 1) (h2 : D'.read 2 = D.read 2) : countsP D' = countsP D := by
  unfold countsP
  rw [h]
  split
  · show cntStep 2 (decP (D'.read 2)) (cntStep 1 (decP (D'.read 1)) (0, pt0)) = cntStep 2 (decP (D.read 2)) (cntStep 1 (decP (D.read 1)) (0, pt0))
    rw [h1, h2]
  · rfl
theorem read_sure {D : Dsk} (hq : D.queue = []) (i : Nat) : D.read i = D.sure.getD i [] := by unfold Dsk.read readQ; rw [hq]; rfl
/-- A write and a barrier. -/
theorem wb_read {D : Dsk} (hq : D.queue = []) {i : Nat} (hi : i < D.sure.length) (b : List UInt8) (j : Nat) : (D.wrote i b).barred.read j = if j = i then b else D.read j := by
  rw [read_sure rfl, read_sure hq]
  show (putQ (D.queue ++ [(i, b)]) D.sure).getD j [] = _
  rw [hq]
  show (D.sure.set i b).getD j [] = _
  rw [List.getD_eq_getElem?_getD, List.getElem?_set]
  by_cases h : i = j
  · subst h; rw [if_pos rfl, if_pos rfl, if_pos hi]; rfl
  · rw [if_neg h, if_neg (Ne.symm h), List.getD_eq_getElem?_getD]
theorem wb_len {D : Dsk} (i : Nat) (b : List UInt8) : (D.wrote i b).barred.sure.length = D.sure.length := by
  show (putQ _ _).length = _
  rw [putQ_len]; rfl
theorem newer_iff {p q : Pt} : p.newer q = true ↔ (q.e < p.e ∨ (p.e = q.e ∧ q.c < p.c)) := by
  unfold Pt.newer newP
  rw [decide_eq_true_iff]
  omega
/-- Save, where none is as new, on a disk that isn't armed. -/
theorem saveP_new {D : Dsk} {p : Pt} (h3 : 3 ≤ D.sure.length) (hl : D.left = -1) (hn : (countsP D).1 = 0 ∨ p.newer (countsP D).2 = true) :
    saveP D p = (0, (D.wrote (if (countsP D).1 = 1 then 2 else 1) p.bytes).barred) := by
  unfold saveP
  rw [if_neg (by omega), if_neg (by rintro ⟨h1, h2⟩; rcases hn with hn | hn; omega; rw [hn] at h2; cases h2), if_neg (by omega)]
  dsimp only
  rw [if_neg (by show ¬ max (D.left - 1) (-1) = 0; rw [hl]; decide)]
theorem saveP_old {D : Dsk} {p : Pt} (h3 : 3 ≤ D.sure.length) (h : 0 < (countsP D).1) (hn : p.newer (countsP D).2 = false) : saveP D p = (103, D) := by
  unfold saveP
  rw [if_neg (by omega), if_pos ⟨h, hn⟩]
theorem wb_left {D : Dsk} (hl : D.left = -1) (i : Nat) (b : List UInt8) : (D.wrote i b).barred.left = -1 := by
  show max (max (D.left - 1) (-1) - 1) (-1) = -1
  rw [hl]; decide

/-- The disk behind i points that were saved one by one. -/
structure Trn (q : Nat → Pt) (i : Nat) (D : Dsk) : Prop where
  left : D.left = -1
  queue : D.queue = []
  len : D.sure.length = 3
  steps : D.steps = 2 * i
  r1 : 0 < i → D.read (1 + (i - 1) % 2) = (q (i - 1)).bytes
  r2 : 1 < i → D.read (1 + (i - 2) % 2) = (q (i - 2)).bytes
  z1 : i = 0 → decP (D.read 1) = none
  z2 : i ≤ 1 → decP (D.read 2) = none
theorem zero_none : decP zero64 = none := by kernel_rfl
theorem trn_zero (q : Nat → Pt) : Trn q 0 (freshD 3) :=
  ⟨rfl, rfl, by show (List.replicate _ _).length = _; rw [List.length_replicate], rfl, fun h => absurd h (by decide), fun h => absurd h (by decide), fun _ => by rw [read_sure rfl]; exact zero_none, fun _ => by rw [read_sure rfl]; exact zero_none⟩
/-- These points are good, and each is newer than the one ahead of it. -/
structure Asc (q : Nat → Pt) (n : Nat) : Prop where
  good : ∀ i, i < n → (q i).P
  up : ∀ i, i + 1 < n → (q (i + 1)).newer (q i) = true
theorem newer_not {p q : Pt} (h : p.newer q = true) : q.newer p = false := by
  rw [Bool.eq_false_iff]
  intro h2
  rw [newer_iff] at h h2
  omega
theorem newer_self (p : Pt) : p.newer p = false := by
  rw [Bool.eq_false_iff]
  intro h2
  rw [newer_iff] at h2
  omega
theorem trn_counts {q : Nat → Pt} {n i : Nat} {D : Dsk} (hq : Asc q n) (h : Trn q i D) (hi : i ≤ n) : countsP D = if i = 0 then (0, pt0) else (1 + (i - 1) % 2, q (i - 1)) := by
  rw [counts_two (by rw [h.len]; decide)]
  by_cases h0 : i = 0
  · rw [if_pos h0, h.z1 h0, h.z2 (by omega)]; rfl
  · rw [if_neg h0]
    have a1 := h.r1 (by omega)
    have d1 := decP_bytes (hq.good (i - 1) (by omega))
    by_cases h1 : i = 1
    · subst h1
      rw [h.z2 (by omega)]
      have a1' : D.read 1 = (q 0).bytes := a1
      rw [a1', decP_bytes (hq.good 0 (by omega))]
      rfl
    · have a2 := h.r2 (by omega)
      have d2 := decP_bytes (hq.good (i - 2) (by omega))
      have hu := hq.up (i - 2) (by omega)
      rw [show i - 2 + 1 = i - 1 by omega] at hu
      by_cases hp : (i - 1) % 2 = 0
      · have hp2 : (i - 2) % 2 = 1 := by omega
        rw [hp] at a1 ⊢
        rw [hp2] at a2
        rw [show D.read 1 = _ from a1, show D.read 2 = _ from a2, d1, d2]
        unfold cntStep
        simp only [true_or, if_true]
        rw [newer_not hu]
        simp
      · have hp1 : (i - 1) % 2 = 1 := by omega
        have hp2 : (i - 2) % 2 = 0 := by omega
        rw [hp1] at a1 ⊢
        rw [hp2] at a2
        rw [show D.read 1 = _ from a2, show D.read 2 = _ from a1, d1, d2]
        unfold cntStep
        simp only [true_or, if_true]
        rw [hu]
        simp
theorem trn_save {q : Nat → Pt} {n i : Nat} {D : Dsk} (hq : Asc q n) (h : Trn q i D) (hi : i < n) : ∃ D', saveP D (q i) = (0, D') ∧ Trn q (i + 1) D' := by
  have hc := trn_counts hq h (by omega)
  have hto : (if (countsP D).1 = 1 then 2 else 1) = 1 + i % 2 := by
    rw [hc]
    by_cases h0 : i = 0
    · subst h0; rfl
    · rw [if_neg h0]
      show (if 1 + (i - 1) % 2 = 1 then 2 else 1) = _
      split <;> omega
  have hnew : (countsP D).1 = 0 ∨ (q i).newer (countsP D).2 = true := by
    rw [hc]
    by_cases h0 : i = 0
    · left; rw [if_pos h0]
    · right
      rw [if_neg h0]
      have := hq.up (i - 1) (by omega)
      rwa [show i - 1 + 1 = i by omega] at this
  refine ⟨_, saveP_new (by rw [h.len]; decide) h.left hnew, ?_⟩
  rw [hto]
  have hr := fun j => wb_read h.queue (i := 1 + i % 2) (by rw [h.len]; omega) (q i).bytes j
  refine ⟨wb_left h.left _ _, rfl, by rw [wb_len]; exact h.len, by show D.steps + 1 + 1 = _; rw [h.steps]; omega, fun _ => ?_, fun h1 => ?_, fun h1 => by omega, fun h1 => ?_⟩
  · rw [hr, Nat.add_sub_cancel, if_pos rfl]
  · rw [hr, show i + 1 - 2 = i - 1 by omega, if_neg (by omega)]
    exact h.r1 (by omega)
  · obtain rfl : i = 0 := by omega
    rw [hr, if_neg (by decide)]
    exact h.z2 (by decide)
theorem trn_again {q : Nat → Pt} {n i : Nat} {D : Dsk} (hq : Asc q n) (h : Trn q (i + 1) D) (hi : i < n) (h0 : 0 < i) : saveP D (q (i - 1)) = (103, D) := by
  have hc := trn_counts hq h (by omega)
  rw [if_neg (by omega), Nat.add_sub_cancel] at hc
  refine saveP_old (by rw [h.len]; decide) (by rw [hc]; show 0 < 1 + i % 2; omega) ?_
  rw [hc]
  have := hq.up (i - 1) (by omega)
  rw [show i - 1 + 1 = i by omega] at this
  exact newer_not this

theorem mix_mixB (f : Nat → Bool) (a b : List UInt8) : mix f a b 4 = mixB f b a := by
  simp [mix, mixB_eq, mixS, sec, sect, Nat.mul_comm]
/-- A disk between two saves of PointOne: all sectors where points stand are of an elder Epoch. -/
structure One (i : Nat) (D : Dsk) : Prop where
  left : D.left = -1
  queue : D.queue = []
  len : D.sure.length = 5
  steps : D.steps = 0
  b : ∀ x ∈ D.sure, x.length = 64
  old : ∀ j s, j = 1 ∨ j = 2 → s < 4 → secE (D.read j) s ≤ i
theorem one_zero : One 0 (freshD 5) := by
  refine ⟨rfl, rfl, by show (List.replicate _ _).length = _; rw [List.length_replicate], rfl, fun x hx => by rw [List.eq_of_mem_replicate hx]; rfl, fun j s hj hs => ?_⟩
  have hz : ∀ s, s < 4 → secE zero64 s ≤ 0 := by decide
  rw [read_sure rfl]
  rcases hj with rfl | rfl
  · exact hz s hs
  · exact hz s hs
theorem One.rl {i : Nat} {D : Dsk} (h : One i D) {j : Nat} (hj : j < 5) : (D.read j).length = 64 := by
  rw [read_sure h.queue, List.getD_eq_getElem?_getD, List.getElem?_eq_getElem (by rw [h.len]; exact hj)]
  exact h.b _ (List.getElem_mem _)
theorem dec_old {l : List UInt8} {p : Pt} {i : Nat} (hd : decP l = some p) (ho : ∀ s, s < 4 → secE l s ≤ i) : p.e ≤ i := by
  obtain ⟨hp, rfl⟩ := decP_some hd
  have := ho 0 (by decide)
  rwa [(sec_head hp (by decide)).1] at this
/-- What counts, of two blocks. -/
def cnt2 (a b : Option Pt) : Nat × Pt := cntStep 2 b (cntStep 1 a (0, pt0))
theorem cnt2_cases (a b : Option Pt) : (a = none ∧ b = none ∧ cnt2 a b = (0, pt0)) ∨ (∃ p, a = some p ∧ cnt2 a b = (1, p) ∧ ∀ q, b = some q → q.newer p = false) ∨ ∃ q, b = some q ∧ cnt2 a b = (2, q) := by
  rcases a with _ | p <;> rcases b with _ | q
  · exact .inl ⟨rfl, rfl, rfl⟩
  · exact .inr (.inr ⟨q, rfl, rfl⟩)
  · exact .inr (.inl ⟨p, rfl, rfl, fun q h => by cases h⟩)
  · by_cases h : q.newer p = true
    · exact .inr (.inr ⟨q, rfl, by simp [cnt2, cntStep, h]⟩)
    · rw [Bool.not_eq_true] at h
      exact .inr (.inl ⟨p, rfl, by simp [cnt2, cntStep, h], fun q' hq => by cases hq; exact h⟩)
theorem One.counts {i : Nat} {D : Dsk} (h : One i D) : countsP D = cnt2 (decP (D.read 1)) (decP (D.read 2)) := counts_two (by rw [h.len]; decide)
theorem One.now {i : Nat} {D : Dsk} (h : One i D) : (countsP D).2.e ≤ i ∧ (countsP D).1 ≤ 2 := by
  rw [h.counts]
  rcases cnt2_cases (decP (D.read 1)) (decP (D.read 2)) with ⟨-, -, e⟩ | ⟨p, h1, e, -⟩ | ⟨q, h2, e⟩ <;> rw [e]
  · exact ⟨Nat.zero_le _, by decide⟩
  · exact ⟨dec_old h1 (fun s hs => h.old 1 s (.inl rfl) hs), Nat.le_succ 1⟩
  · exact ⟨dec_old h2 (fun s hs => h.old 2 s (.inr rfl) hs), Nat.le_refl 2⟩
/-- What a crash leaves of one write in the queue. -/
theorem crash_one {D : Dsk} (hq : D.queue = []) (hb : ∀ x ∈ D.sure, x.length = 64) {tb : Nat} (ht : tb < D.sure.length) {b : List UInt8} (hbl : b.length = 64) (f : Nat → Nat → Bool) (cap : Nat) (pad : Array Value) (j : Nat) :
    ((D.wrote tb b).crashed f cap pad).read j = if j = tb then mixB (f 0) b (D.read tb) else D.read j := by
  rw [read_sure rfl]
  show (crashN f (D.queue ++ [(tb, b)]) (D.queue ++ [(tb, b)]).length D.sure).getD j [] = _
  rw [read_sure hq, read_sure hq, hq]
  show (crash1 (f 0) (tb, b) 4 D.sure).getD j [] = _
  rw [crash1_four (f 0) (tb, b) D.sure D.sure.length ⟨rfl, hb⟩ hbl ht, mix_mixB, List.getD_eq_getElem?_getD, List.getElem?_set]
  by_cases h : tb = j
  · subst h; rw [if_pos rfl, if_pos rfl, if_pos ht]; rfl
  · rw [if_neg h, if_neg (Ne.symm h), List.getD_eq_getElem?_getD]
theorem crash_none {D : Dsk} (hq : D.queue = []) (f : Nat → Nat → Bool) (cap : Nat) (pad : Array Value) (j : Nat) : (D.crashed f cap pad).read j = D.read j := by
  rw [read_sure rfl, read_sure hq]
  show (crashN f D.queue D.queue.length D.sure).getD j [] = _
  rw [hq]
  rfl
/-- Two of three: the new point alone, or the elder one. -/
theorem cnt_put {i : Nat} {D D' : Dsk} (h : One i D) {p : Pt} (hp : p.P) (he : p.e = i + 1) {tb : Nat} (hto : tb = if (countsP D).1 = 1 then 2 else 1) (hl : D'.sure.length = 5) {x : Option Pt} (hd : decP (D'.read tb) = x) (hr : ∀ j, j ≠ tb → D'.read j = D.read j) :
    (x = some p → countsP D' = (tb, p)) ∧ (x = none → countsP D' = countsP D) := by
  have hc := h.counts
  have hc' : countsP D' = cnt2 (decP (D'.read 1)) (decP (D'.read 2)) := counts_two (by rw [hl]; decide)
  have o1 := fun q (hq : decP (D.read 1) = some q) => dec_old hq (fun s hs => h.old 1 s (.inl rfl) hs)
  have o2 := fun q (hq : decP (D.read 2) = some q) => dec_old hq (fun s hs => h.old 2 s (.inr rfl) hs)
  rw [hc', hc]
  rw [hc] at hto
  generalize h1 : decP (D.read 1) = a at *
  generalize h2 : decP (D.read 2) = b at *
  by_cases ht : (cnt2 a b).1 = 1
  · rw [if_pos ht] at hto
    subst hto
    rw [hr 1 (by decide), hd, h1]
    rcases cnt2_cases a b with ⟨-, -, e⟩ | ⟨q, ha, e, -⟩ | ⟨q, -, e⟩
    · rw [e] at ht; exact absurd ht (by decide)
    · subst ha
      constructor
      · rintro rfl
        have := o1 q rfl
        have : p.newer q = true := by rw [newer_iff]; left; omega
        simp [cnt2, cntStep, this]
      · rintro rfl
        rw [e]
        rfl
    · rw [e] at ht; exact absurd ht (show ¬ (2 = 1) by decide)
  · rw [if_neg ht] at hto
    subst hto
    rw [hr 2 (by decide), hd, h2]
    rcases cnt2_cases a b with ⟨ha, hb, e⟩ | ⟨q, ha, e, -⟩ | ⟨q, hb, e⟩
    · subst hb
      constructor
      · rintro rfl; rfl
      · rintro rfl; rw [e]; rfl
    · rw [e] at ht; exact absurd rfl ht
    · subst hb
      constructor
      · rintro rfl
        have := o2 q rfl
        have hn : p.newer q = true := by rw [newer_iff]; left; omega
        have := newer_not hn
        simp [cnt2, cntStep, this]
      · rintro rfl
        rw [e]
        rfl
/-- One round of PointOne. -/
theorem one_step {i : Nat} {D : Dsk} (h : One i D) {p : Pt} (hp : p.P) (he : p.e = i + 1) (k : Nat) (f : Nat → Nat → Bool) (cap : Nat) (pad : Array Value) :
    One (i + 1) ((saveP { D with left := (k : Int) } p).2.crashed f cap pad) ∧
    ((0 < (countsP ((saveP { D with left := (k : Int) } p).2.crashed f cap pad)).1 ∧ (countsP ((saveP { D with left := (k : Int) } p).2.crashed f cap pad)).2 = p) ∨
      ((saveP { D with left := (k : Int) } p).1 ≠ 0 ∧ countsP ((saveP { D with left := (k : Int) } p).2.crashed f cap pad) = countsP D)) := by
  have hcl : countsP { D with left := (k : Int) } = countsP D := counts_same rfl rfl rfl
  have hn := h.now
  obtain ⟨tb, hto⟩ : ∃ tb, tb = if (countsP D).1 = 1 then 2 else 1 := ⟨_, rfl⟩
  have ht12 : tb = 1 ∨ tb = 2 := by rw [hto]; split <;> simp
  have ht5 : tb < D.sure.length := by rw [h.len]; omega
  have hbl : p.bytes.length = 64 := ptBytes_length _ _ _ _
  have hS : saveP { D with left := (k : Int) } p = if (k : Int) = 0 then (102, { D with left := (k : Int) }) else
      if ({ D with left := (k : Int) }.wrote tb p.bytes).left = 0 then (102, { D with left := (k : Int) }.wrote tb p.bytes) else (0, ({ D with left := (k : Int) }.wrote tb p.bytes).barred) := by
    unfold saveP
    rw [hcl, if_neg (by show ¬ D.sure.length < 3; rw [h.len]; decide), if_neg]
    · rw [← hto]
    · rintro ⟨h1, h2⟩
      have : p.newer (countsP D).2 = true := by rw [newer_iff]; left; omega
      rw [this] at h2
      cases h2
  have hsec : ∀ s, s < 4 → secE p.bytes s = i + 1 := fun s hs => by rw [(sec_head hp hs).1, he]
  rw [hS]
  by_cases hk : (k : Int) = 0
  · rw [if_pos hk]
    have hr := crash_none (D := { D with left := (k : Int) }) h.queue f cap pad
    have hc2 : ({ D with left := (k : Int) }.crashed f cap pad).sure = D.sure := by
      show crashN f D.queue D.queue.length D.sure = _
      rw [h.queue]; rfl
    refine ⟨⟨rfl, rfl, by rw [hc2]; exact h.len, rfl, by rw [hc2]; exact h.b, fun j s hj hs => ?_⟩, .inr ⟨show (102 : Int) ≠ 0 by decide, ?_⟩⟩
    · rw [hr]; exact Nat.le_succ_of_le (h.old j s hj hs)
    · exact counts_same (by rw [hc2]) (hr 1) (hr 2)
  · rw [if_neg hk]
    by_cases hk2 : ({ D with left := (k : Int) }.wrote tb p.bytes).left = 0
    · rw [if_pos hk2]
      have hr : ∀ j, (({ D with left := (k : Int) }.wrote tb p.bytes).crashed f cap pad).read j = if j = tb then mixB (f 0) p.bytes (D.read tb) else D.read j := crash_one (D := { D with left := (k : Int) }) h.queue h.b ht5 hbl f cap pad
      have h64 : All64 5 (({ D with left := (k : Int) }.wrote tb p.bytes).crashed f cap pad).sure := by
        refine crashN_64 (n := 5) ⟨h.len, h.b⟩ (fun x hx => ?_) _ (Nat.le_refl _)
        have hx' : x ∈ D.queue ++ [(tb, p.bytes)] := hx
        rw [h.queue] at hx'
        simp only [List.nil_append, List.mem_singleton] at hx'
        subst hx'
        exact ⟨hbl, by omega⟩
      have hold : ∀ j s, j = 1 ∨ j = 2 → s < 4 → secE ((({ D with left := (k : Int) }.wrote tb p.bytes).crashed f cap pad).read j) s ≤ i + 1 := by
        intro j s hj hs
        rw [hr]
        split
        · rename_i e
          subst e
          unfold secE
          rw [sec_mix hbl (h.rl (by omega)) hs]
          unfold mixS
          split
          · exact Nat.le_of_eq (hsec s hs)
          · exact Nat.le_succ_of_le (h.old j s hj hs)
        · exact Nat.le_succ_of_le (h.old j s hj hs)
      refine ⟨⟨rfl, rfl, h64.1, rfl, h64.2, hold⟩, ?_⟩
      have hput := cnt_put h hp he hto (D' := ({ D with left := (k : Int) }.wrote tb p.bytes).crashed f cap pad) h64.1 rfl (fun j hj => by rw [hr, if_neg hj])
      have hrt := hr tb
      rw [if_pos rfl] at hrt
      rw [hrt] at hput
      by_cases hall : ∀ s, s < 4 → f 0 s = true
      · left
        rw [mixB_all hbl hall, decP_bytes hp] at hput
        rw [hput.1 rfl]
        exact ⟨by show 0 < tb; omega, rfl⟩
      · right
        refine ⟨show (102 : Int) ≠ 0 by decide, ?_⟩
        by_cases hnone : ∀ s, s < 4 → f 0 s = false
        · rw [mixB_none (h.rl (by omega)) hnone] at hrt
          refine counts_same (by rw [h64.1, h.len]) ?_ ?_
          · rw [hr]; split
            · rename_i e; rw [e, mixB_none (h.rl (by omega)) hnone]
            · rfl
          · rw [hr]; split
            · rename_i e; rw [e, mixB_none (h.rl (by omega)) hnone]
            · rfl
        · have ⟨t, ht, hft⟩ : ∃ t, t < 4 ∧ f 0 t = false := by
            apply Classical.byContradiction
            intro hn
            exact hall (fun s hs => by
              cases hfs : f 0 s
              · exact absurd ⟨s, hs, hfs⟩ hn
              · rfl)
          have ⟨s, hs, hfs⟩ : ∃ t, t < 4 ∧ f 0 t = true := by
            apply Classical.byContradiction
            intro hn
            exact hnone (fun s hs => by
              cases hfs : f 0 s
              · rfl
              · exact absurd ⟨s, hs, hfs⟩ hn)
          refine hput.2 (mix_no hp (h.rl (by omega)) hs ht hfs hft (.inl ?_))
          have := h.old tb t ht12 ht
          omega
    · rw [if_neg hk2]
      have hr0 := wb_read (D := { D with left := (k : Int) }) h.queue ht5 p.bytes
      have hr := fun j => (crash_none (D := ({ D with left := (k : Int) }.wrote tb p.bytes).barred) rfl f cap pad j).trans (hr0 j)
      have hc2 : (({ D with left := (k : Int) }.wrote tb p.bytes).barred.crashed f cap pad).sure = D.sure.set tb p.bytes := by
        show putQ (D.queue ++ [(tb, p.bytes)]) D.sure = _
        rw [h.queue]; rfl
      have hlen : (({ D with left := (k : Int) }.wrote tb p.bytes).barred.crashed f cap pad).sure.length = 5 := by rw [hc2, List.length_set, h.len]
      refine ⟨⟨rfl, rfl, hlen, rfl, by
          rw [hc2]
          intro x hx
          rcases List.mem_or_eq_of_mem_set hx with hx | hx
          · exact h.b x hx
          · rw [hx]; exact hbl, fun j s hj hs => ?_⟩, .inl ?_⟩
      · rw [hr]
        split
        · exact Nat.le_of_eq (hsec s hs)
        · exact Nat.le_succ_of_le (h.old j s hj hs)
      · have hput := cnt_put h hp he hto (D' := ({ D with left := (k : Int) }.wrote tb p.bytes).barred.crashed f cap pad) hlen rfl (fun j hj => by rw [hr, if_neg hj]; rfl)
        have hrt := hr tb
        rw [if_pos rfl] at hrt
        rw [hrt, decP_bytes hp] at hput
        rw [hput.1 rfl]
        exact ⟨by show 0 < tb; omega, rfl⟩
end Go.Proofs.Ytfaingklglelnaa
