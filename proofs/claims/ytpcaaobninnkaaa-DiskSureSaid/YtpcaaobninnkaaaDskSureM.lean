/- DiskSure: six rows of blocks' bytes in memory. -/
import Derived.Test.YtpcaaobninnkaaaDskSureS
import Derived.Test.YtpcaaobninnkaaaRowG
namespace Go.Proofs.Ytpcaaobninnkaaa
open Go.RowKit

/-- A row of blocks' bytes, of the call's own. -/
def RowS (w : World) (base : Nat) (v : Value) (h : List (List UInt8)) : Prop :=
  ∃ xs, w.ownsRow base 22 1 v h.length xs ∧ ∀ (j : Nat) (b : List UInt8), h[j]? = some b → b.length = 64 ∧ ∃ q, xs[j]? = some (.slice (some ⟨q, 0, none⟩) 64 64) ∧ base ≤ q ∧ Blk w q 5 (u8s b).toArray
/-- Six such rows in an array; row e is let out. -/
structure HasM (w : World) (base g e : Nat) (vs : List Value) (hs : List (List (List UInt8))) : Prop where
  hg : Blk w g 43 vs.toArray
  gb : base ≤ g
  nv : vs.length = 6
  nh : hs.length = 6
  row : ∀ i v h, i ≠ e → vs[i]? = some v → hs[i]? = some h → RowS w base v h
  ap : ∀ i j v v', i ≠ e → j ≠ e → i ≠ j → vs[i]? = some v → vs[j]? = some v' → ∀ b, v.ownBlock = some b → v'.ownBlock ≠ some b
theorem own_blk {w : World} {base n k : Nat} {e : TypeId} {v : Value} {xs : List Value} (h : w.ownsRow base e k v n xs) {g : Nat} (hg : v.ownBlock = some g) : base ≤ g ∧ ∃ cs, Blk w g e cs := by
  rcases h.2 with ⟨hv, -⟩ | ⟨g', cap, cur, hv, hb, hB, -⟩
  · rw [hv] at hg; cases hg
  · rw [hv] at hg
    simp only [Value.ownBlock, Option.some.injEq] at hg
    subst hg
    exact ⟨hb, cur, hB⟩
theorem blk_type {w : World} {g : Nat} {t t' : TypeId} {cs cs' : Array Value} (h : Blk w g t cs) (h' : Blk w g t' cs') : t = t' := by
  have e := Option.some.inj (h.symm.trans h')
  injection e
section
variable {w w' : World} {base g e : Nat} {vs : List Value} {hs : List (List (List UInt8))}
theorem RowS.kp {v : Value} {h : List (List UInt8)} (hr : RowS w base v h) {gs : List Nat} (hk : Kp gs w w') (hn : ∀ k t cs, Blk w k t cs → t = 22 ∨ t = 5 → v.ownBlock = some k ∨ t = 5 → k ∉ gs) : RowS w' base v h := by
  obtain ⟨xs, ho, hx⟩ := hr
  refine ⟨xs, own_kq ho hk (fun k hk2 => ?_), fun j b hb => ?_⟩
  · obtain ⟨-, cs, hB⟩ := own_blk ho hk2
    exact hn k _ cs hB (.inl rfl) (.inl hk2)
  · obtain ⟨h1, q, h2, h3, h4⟩ := hx j b hb
    exact ⟨h1, q, h2, h3, h4.kp hk (hn q _ _ h4 (.inr rfl) (.inr rfl))⟩
theorem HasM.kp (h : HasM w base g e vs hs) {gs : List Nat} (hk : Kp gs w w') (hn : ∀ k t cs, Blk w k t cs → t = 43 ∨ t = 22 ∨ t = 5 → k ∉ gs) : HasM w' base g e vs hs :=
  ⟨h.hg.kp hk (hn g _ _ h.hg (.inl rfl)), h.gb, h.nv, h.nh, fun i v x hi hv hx => (h.row i v x hi hv hx).kp hk (fun k t cs hB ht _ => hn k t cs hB (ht.elim (fun a => .inr (.inl a)) (fun a => .inr (.inr a)))), h.ap⟩
theorem HasM.below (h : HasM w base g e vs hs) (hb : Below w.heap.size w w') : HasM w' base g e vs hs := h.kp (Kp.of_below (gs := []) hb) (by simp)
theorem HasM.alloc (h : HasM w base g e vs hs) (o : Obj) : HasM (w.alloc o) base g e vs hs := h.below ((Below.refl _ _).alloc (Nat.le_refl _) o)
theorem kp_grow {r : Option Nat} (h : w.grownBy w' r) : Kp r.toList w w' := ⟨h.os, h.tape, h.output, h.size, fun k hk hn => h.block k hk (fun e => hn (by rw [← e]; simp))⟩
/-- One row grows. -/
theorem HasM.grow (h : HasM w base g 6 vs hs) {k : Nat} {v : Value} {x : List (List UInt8)} (hv : vs[k]? = some v) (hx : hs[k]? = some x) (hk : k ≠ 6) (hg : w.grownBy w' v.ownBlock) : HasM w' base g k vs hs := by
  have hK := kp_grow hg
  have hrow := h.row k v x hk hv hx
  obtain ⟨xs, ho, -⟩ := hrow
  have hne : ∀ b t cs, Blk w b t cs → t ≠ 22 → b ∉ v.ownBlock.toList := fun b t cs hB ht hm => by
    obtain ⟨-, cs', hB'⟩ := own_blk ho (g := b) (by simpa using hm)
    exact ht (blk_type hB hB')
  refine ⟨h.hg.kp hK (hne _ _ _ h.hg (by decide)), h.gb, h.nv, h.nh, fun i v' x' hi hv' hx' => ?_, fun i j a b hi hj => ?_⟩
  · have hi6 : i ≠ 6 := by have := (List.getElem?_eq_some_iff.1 hv').1; rw [h.nv] at this; omega
    refine (h.row i v' x' hi6 hv' hx').kp hK (fun b t cs hB ht hob => ?_)
    rcases ht with rfl | rfl
    · rcases hob with hob | hob
      · intro hm
        exact h.ap i k v' v hi6 hk hi hv' hv b hob (by simpa using hm)
      · exact absurd hob (by decide)
    · exact hne b _ cs hB (by decide)
  · have := fun (h1 : i < 6) (h2 : j < 6) => h.ap i j a b (by omega) (by omega)
    intro hij ha hb
    have h1 := (List.getElem?_eq_some_iff.1 ha).1
    have h2 := (List.getElem?_eq_some_iff.1 hb).1
    rw [h.nv] at h1 h2
    exact this h1 h2 hij ha hb
/-- A row is put into the array. -/
theorem HasM.put (h : HasM w base g e vs hs) {k : Nat} (hk : k < 6) (he : e = 6 ∨ e = k) {v' : Value} {h' : List (List UInt8)} (hr : RowS w base v' h') (hap : ∀ j v, j ≠ k → vs[j]? = some v → ∀ b, v'.ownBlock = some b → v.ownBlock ≠ some b) :
    HasM (w.setCell ⟨g, k, none⟩ v') base g 6 (vs.set k v') (hs.set k h') := by
  have hK : Kp [g] w (w.setCell ⟨g, k, none⟩ v') := (Kp.refl [g] w).set (p := ⟨g, k, none⟩) (.inl (by simp)) v'
  have hne : ∀ b t cs, Blk w b t cs → t ≠ 43 → b ∉ [g] := fun b t cs hB ht hm => by
    rw [List.mem_singleton] at hm
    subst hm
    exact ht (blk_type hB h.hg)
  have hne2 : ∀ b t cs, Blk w b t cs → t = 22 ∨ t = 5 → b ∉ [g] := fun b t cs hB ht => hne b t cs hB (by rcases ht with rfl | rfl <;> decide)
  refine ⟨?_, h.gb, by rw [List.length_set]; exact h.nv, by rw [List.length_set]; exact h.nh, fun i v x hi hv hx => ?_, fun i j a b hi hj hij ha hb => ?_⟩
  · have := h.hg.set k v'
    simpa using this
  · rw [List.getElem?_set] at hv hx
    by_cases e2 : k = i
    · subst e2
      rw [if_pos rfl, if_pos (by rw [h.nv]; exact hk)] at hv
      rw [if_pos rfl, if_pos (by rw [h.nh]; exact hk)] at hx
      cases hv
      cases hx
      exact hr.kp hK (fun b t cs hB ht _ => hne2 b t cs hB ht)
    · rw [if_neg e2] at hv hx
      have hi6 : i ≠ 6 := by have := (List.getElem?_eq_some_iff.1 hv).1; rw [h.nv] at this; omega
      exact (h.row i v x (by omega) hv hx).kp hK (fun b t cs hB ht _ => hne2 b t cs hB ht)
  · rw [List.getElem?_set] at ha hb
    have hk1 : k < vs.length := by rw [h.nv]; exact hk
    by_cases ei : k = i
    · subst ei
      rw [if_pos rfl, if_pos hk1] at ha
      rw [if_neg hij] at hb
      cases ha
      exact hap j b (Ne.symm hij) hb
    · rw [if_neg ei] at ha
      by_cases ej : k = j
      · subst ej
        rw [if_pos rfl, if_pos hk1] at hb
        cases hb
        intro q hq hq2
        exact hap i a (Ne.symm ei) ha q hq2 hq
      · rw [if_neg ej] at hb
        have h1 := (List.getElem?_eq_some_iff.1 ha).1
        have h2 := (List.getElem?_eq_some_iff.1 hb).1
        rw [h.nv] at h1 h2
        exact h.ap i j a b (by omega) (by omega) hij ha hb
/-- What is appended stands behind. -/
theorem RowS.snoc {v v' : Value} {x : List (List UInt8)} {xs : List Value} (hx : ∀ (j : Nat) (b : List UInt8), x[j]? = some b → b.length = 64 ∧ ∃ q, xs[j]? = some (.slice (some ⟨q, 0, none⟩) 64 64) ∧ base ≤ q ∧ Blk w q 5 (u8s b).toArray) (ho : w.ownsRow base 22 1 v x.length xs)
    (hg : w.grownBy w' v.ownBlock) {b : List UInt8} (hb : b.length = 64) {q : Nat} (hq : base ≤ q) (hB : Blk w q 5 (u8s b).toArray) (hown : w'.ownsRow base 22 1 v' (x.length + 1) (xs ++ [.slice (some ⟨q, 0, none⟩) 64 64])) : RowS w' base v' (x ++ [b]) := by
  have hK := kp_grow hg
  have hlen : xs.length = x.length := by have := ho.1; omega
  have hne : ∀ k cs, Blk w k 5 cs → k ∉ v.ownBlock.toList := fun k cs hB hm => by
    obtain ⟨-, cs', hB'⟩ := own_blk ho (g := k) (by simpa using hm)
    exact absurd (blk_type hB hB') (by decide)
  refine ⟨_, by rw [List.length_append]; exact hown, fun j c hc => ?_⟩
  rw [List.getElem?_append] at hc ⊢
  rw [hlen]
  split at hc
  · rename_i hj
    rw [if_pos hj]
    obtain ⟨h1, r, h2, h3, h4⟩ := hx j c hc
    exact ⟨h1, r, h2, h3, h4.kp hK (hne r _ h4)⟩
  · rename_i hj
    rw [if_neg hj]
    have hj0 : j - x.length = 0 := by
      have := (List.getElem?_eq_some_iff.1 hc).1
      simpa using this
    rw [hj0] at hc ⊢
    simp only [List.getElem?_cons_zero, Option.some.injEq] at hc
    subst hc
    exact ⟨hb, q, by simp, hq, hB.kp hK (hne q _ hB)⟩
/-- The disk stays when blocks of other types are written. -/
theorem out_of_type {w0 : World} {d k : Nat} {D : Dsk} (h : LD w0 w d D) {t : TypeId} {cs : Array Value} (hB : Blk w k t cs) (ht : t ≠ 65 ∧ t ≠ 67 ∧ t ≠ 69) : Out w0 w d D k := by
  obtain ⟨s, v, hD⟩ := h.ex
  refine ⟨hB.lt, s, v, hD, ?_, ?_, ?_⟩
  · rintro rfl; exact ht.1 (blk_type hB hD.hd)
  · rintro rfl; exact ht.2.1 (blk_type hB hD.hs)
  · intro e
    obtain ⟨-, cs', hB'⟩ := own_blk hD.hq e
    exact ht.2.2 (blk_type hB hB')
theorem LD.kpOut {w0 : World} {d : Nat} {D : Dsk} (h : LD w0 w d D) {gs : List Nat} (hK : Kp gs w w') (hgs : ∀ k ∈ gs, w0.heap.size ≤ k ∧ Out w0 w d D k) : LD w0 w' d D := by
  obtain ⟨s, v, hD⟩ := h.ex
  have ho : ∀ k ∈ gs, k ≠ d ∧ k ≠ s ∧ v.ownBlock ≠ some k := fun k hk => by
    obtain ⟨-, s2, v2, hD2, h1, h2, h3⟩ := (hgs k hk).2
    obtain ⟨rfl, rfl⟩ := dsk_same hD hD2
    exact ⟨h1, h2, h3⟩
  refine ⟨⟨s, v, dsk_kp hD hK (fun hm => (ho d hm).1 rfl) (fun hm => (ho s hm).2.1 rfl) (fun k hk hm => (ho k hm).2.2 hk)⟩, Below.kp2 h.bel hK h.bel.size (fun k hk => (hgs k hk).1)⟩
/-- A write's blocks are none of the rows'. -/
theorem HasM.disk {w0 : World} {d : Nat} {D D' : Dsk} (h : HasM w base g e vs hs) (hl : LD w0 w d D) {gs : List Nat} (hK : Kp gs w w') (hf : ∀ k, Out w0 w d D k → k ∉ gs ∧ Out w0 w' d D' k) : HasM w' base g e vs hs :=
  h.kp hK (fun k t cs hB ht => (hf k (out_of_type hl hB (by rcases ht with rfl | rfl | rfl <;> decide))).1)
end
end Go.Proofs.Ytpcaaobninnkaaa
