import Derived.Test.YtbamdibpkkponaaDoorJb15
set_option linter.unusedVariables false
set_option linter.unusedSimpArgs false
/- Writes into what Decode has made: files whose lists are the call's own. -/
namespace Go.Proofs.YtbamdibpkkponaaDoor
open Go.RowKit

theorem own_blkP {w : World} {base n c k : Nat} {e : TypeId} {A : Option Addr} {xs : List Value} (h : w.ownsRow base e k (.slice A n c) n xs) (hn : 0 < n) : ∃ g cur, A = some ⟨g, 0, none⟩ ∧ base ≤ g ∧ Blk w g e cur := by
  rcases h.2 with ⟨-, h0⟩ | ⟨g, cap, cur, h1, h2, h3, -⟩
  · omega
  · injection h1 with h1
    exact ⟨g, cur, h1, h2, h3⟩
theorem own_setK {w : World} {base n c k m : Nat} {e : TypeId} {A : Option Addr} {xs : List Value} (h : w.ownsRow base e k (.slice A n c) n xs) (hm : m < n * k) :
    ∃ g u cur, A = some ⟨g, 0, none⟩ ∧ base ≤ g ∧ Blk w g e cur ∧ xs[m]? = some u ∧ w.cell? ⟨g, m, none⟩ = some u ∧ w.frozen? ⟨g, m, none⟩ = false ∧ ∀ v, (w.setCell ⟨g, m, none⟩ v).ownsRow base e k (.slice A n c) n (xs.set m v) := by
  obtain ⟨hl, h⟩ := h
  rcases h with ⟨-, h0⟩ | ⟨g, cap, cur, h1, h2, h3, h4, h5, h6, h7⟩
  · subst h0; simp at hm
  · have h1' := h1
    injection h1 with h1 _ h8
    subst h1 h8
    have hB : Blk w g e cur := h3
    have hmx : m < xs.length := by rw [hl]; exact hm
    have hu : xs[m]? = some xs[m] := List.getElem?_eq_getElem hmx
    have hc : w.cell? ⟨g, m, none⟩ = some xs[m] := by
      rw [hB.cell m, ← hu, ← h7, List.getElem?_take_of_lt hm]
      simp
    refine ⟨g, xs[m], cur, rfl, h2, hB, hu, hc, hB.frozen m, fun v => ⟨by rw [List.length_set]; exact hl, .inr ⟨g, c, cur.setIfInBounds m v, rfl, h2, hB.set m v, h4, h5, by simpa using h6, ?_⟩⟩⟩
    rw [← h7, Array.toList_setIfInBounds, List.take_set]
/-- A write of an integer into a row of integers. -/
theorem row_bump {w : World} {base n c k : Nat} {e : TypeId} {A : Option Addr} {kd : IntKind} {xs : List Value} (h : w.ownsRow base e 1 (.slice A n c) n xs) (hx : ∀ u ∈ xs, ∃ z, u = .int kd z) (hk : k < n) :
    ∃ g z cur, A = some ⟨g, 0, none⟩ ∧ base ≤ g ∧ Blk w g e cur ∧ w.cell? ⟨g, k, none⟩ = some (.int kd z) ∧ w.frozen? ⟨g, k, none⟩ = false ∧
      ∀ y, ∃ xs', (w.setCell ⟨g, k, none⟩ (.int kd y)).ownsRow base e 1 (.slice A n c) n xs' ∧ ∀ u ∈ xs', ∃ z, u = .int kd z := by
  obtain ⟨g, u, cur, hA, hg, hB, hu, hc, hf, hs⟩ := own_setK h (m := k) (by omega)
  obtain ⟨z, rfl⟩ := hx u (List.mem_of_getElem? hu)
  refine ⟨g, z, cur, hA, hg, hB, hc, hf, fun y => ⟨_, hs _, fun u hu => ?_⟩⟩
  rcases List.mem_or_eq_of_mem_set hu with h1 | h1
  · exact hx u h1
  · exact ⟨y, h1⟩
theorem u8s_ints (l : List UInt8) : ∀ u ∈ u8s l, ∃ z, u = .int .u8 z := by
  intro u hu
  obtain ⟨x, -, rfl⟩ := List.mem_map.1 hu
  exact ⟨_, rfl⟩
theorem intC_ints (l : List Int) : ∀ u ∈ intC l, ∃ z, u = .int .i64 z := by
  intro u hu
  obtain ⟨x, -, rfl⟩ := List.mem_map.1 hu
  exact ⟨_, rfl⟩
theorem list_bump {w : World} {base d : Nat} {B : Option Addr} {l : List Int} (h : w.ownsRow base 3 1 (.slice B l.length d) l.length (intC l)) (hk : 0 < l.length) :
    ∃ g z cur, B = some ⟨g, 0, none⟩ ∧ base ≤ g ∧ Blk w g 3 cur ∧ w.cell? ⟨g, 0, none⟩ = some (.int .i64 z) ∧ w.frozen? ⟨g, 0, none⟩ = false ∧
      ∀ y, (w.setCell ⟨g, 0, none⟩ (.int .i64 y)).ownsRow base 3 1 (.slice B l.length d) l.length (intC (l.set 0 y)) := by
  obtain ⟨g, u, cur, hA, hg, hB, hu, hc, hf, hs⟩ := own_setK h (m := 0) (by omega)
  obtain ⟨z, rfl⟩ := intC_ints l u (List.mem_of_getElem? hu)
  refine ⟨g, z, cur, hA, hg, hB, hc, hf, fun y => ?_⟩
  rw [intC, List.map_set]
  exact hs _
theorem own_alX {w : World} {base n k : Nat} {e : TypeId} {v : Value} {xs : List Value} (h : w.ownsRow base e k v n xs) (o : Obj) : (w.alloc o).ownsRow base e k v n xs := own_bel h ((Below.refl _ _).alloc (Nat.le_refl _) o)
theorem kp_gr {w w' : World} {r : Option Nat} (h : w.grownBy w' r) : Kp r.toList w w' :=
  ⟨h.os, h.tape, h.output, h.size, fun k hk hn => h.block k hk (fun e => hn (by rw [← e]; simp))⟩
theorem flat_set : ∀ {cs : List (List Value)} {j : Nat} {a b u u' : Value}, (∀ x ∈ cs, x.length = 3) → cs[j]? = some [a, b, u] → (cs.set j [a, b, u']).flatten = cs.flatten.set (j * 3 + 2) u'
  | [], _, _, _, _, _, _, h => by simp at h
  | x :: cs, 0, a, b, u, u', hl, h => by
    simp only [List.getElem?_cons_zero, Option.some.injEq] at h
    subst h
    simp [List.set]
  | x :: cs, j + 1, a, b, u, u', hl, h => by
    rw [List.getElem?_cons_succ] at h
    have h3 := hl x (by simp)
    have ih := flat_set (u' := u') (fun y hy => hl y (by simp [hy])) h
    rw [List.set_cons_succ, List.flatten_cons, ih, List.flatten_cons, List.set_append_right _ _ (by omega)]
    congr 2
    omega
section
variable {base n c : Nat} {w w' : World} {A : Option Addr} {cs : List (List Value)} {fs : List FI}
theorem ORow.l3 (h : ORow base w A n c cs fs) : ∀ x ∈ cs, x.length = 3 := fun x hx => by
  obtain ⟨j, hj, e⟩ := List.getElem_of_mem hx
  obtain ⟨B, d, rfl, -⟩ := h.fo j x (fs[j]'(by rw [h.l1, ← h.l2]; exact hj)) (by rw [List.getElem?_eq_getElem hj, e]) (List.getElem?_eq_getElem _)
  rfl
/-- One of them, to be read and written. -/
theorem ORow.at (h : ORow base w A n c cs fs) {j : Nat} (hj : j < n) : ∃ gF f B d cur, A = some ⟨gF, 0, none⟩ ∧ base ≤ gF ∧ Blk w gF 46 cur ∧ cs[j]? = some (fiV f B d) ∧ fs[j]? = some f ∧ w.ownsRow base 3 1 (.slice B f.ls.length d) f.ls.length (intC f.ls) ∧
    w.cell? ⟨gF, j * 3 + 2, none⟩ = some (.slice B f.ls.length d) ∧ w.frozen? ⟨gF, j * 3 + 2, none⟩ = false := by
  have hx : cs[j]? = some (cs[j]'(by rw [h.l2]; exact hj)) := List.getElem?_eq_getElem _
  have hf : fs[j]? = some (fs[j]'(by rw [h.l1]; exact hj)) := List.getElem?_eq_getElem _
  obtain ⟨B, d, e, ho⟩ := h.fo j _ _ hx hf
  obtain ⟨gF, u, cur, hA, hg, hB, hu, hc, hz, -⟩ := own_setK h.own (m := j * 3 + 2) (by omega)
  have h5 := flatten_getR cs h.l3 j 2 (by decide)
  rw [hx, Option.bind_some, e, hu] at h5
  rw [e] at hx
  refine ⟨gF, _, B, d, cur, hA, hg, hB, hx, hf, ho, ?_, hz⟩
  rw [hc, h5]
  rfl
/-- Writes into blocks that are none of its own. -/
theorem ORow.kpx (h : ORow base w A n c cs fs) {gs : List Nat} (hk : Kp gs w w') (h1 : ∀ g ∈ gs, ∃ cur t, Blk w g t cur ∧ t ≠ 46) (h2 : ∀ (j : Nat) (x : List Value) (g : Nat), cs[j]? = some x → lsB x = some g → g ∉ gs) : ORow base w' A n c cs fs :=
  ⟨h.l1, h.l2, own_kq h.own hk (fun g hgb hm => by
    obtain ⟨-, -, cs', hB⟩ := h.lt g hgb
    obtain ⟨cur, t, hB', ht⟩ := h1 g hm
    exact ht (Blk.type hB' hB).1), fun j x f hx hf => by
    obtain ⟨B, d, e, ho⟩ := h.fo j x f hx hf
    refine ⟨B, d, e, own_kq ho hk (fun g hg => h2 j x g hx ?_)⟩
    subst e
    exact hg, h.ne⟩
theorem ORow.kt {b : Nat} {T : List TypeId} (h : ORow base w A n c cs fs) (hk : Kt T b w w') (h1 : 46 ∉ T) (h2 : 3 ∉ T) : ORow base w' A n c cs fs :=
  ⟨h.l1, h.l2, own_ktR h.own hk h1, fun j x f hx hf => (h.fo j x f hx hf).kt hk h2, h.ne⟩
theorem FO.lsb {x : List Value} {f : FI} {B : Option Addr} {d : Nat} (e : x = fiV f B d) : lsB x = (Value.slice B f.ls.length d).ownBlock := by subst e; rfl
/-- A write into one of the lists. -/
theorem ORow.put (h : ORow base w A n c cs fs) {j g : Nat} {f : FI} {B : Option Addr} {d : Nat} {l : List Int} (hx : cs[j]? = some (fiV f B d)) (hf : fs[j]? = some f) (hB : B = some ⟨g, 0, none⟩) (hl : l.length = f.ls.length) (hk : Kp [g] w w')
    (ho : w'.ownsRow base 3 1 (.slice B f.ls.length d) f.ls.length (intC l)) : ORow base w' A n c cs (fs.set j ⟨f.ino, f.ver, l⟩) := by
  have hlb : lsB (fiV f B d) = some g := by subst hB; rfl
  have hjn := (List.getElem?_eq_some_iff.1 hf).1
  obtain ⟨hg1, cur, hBg⟩ := own_blkT (w := w) (e := 3) (xs := intC f.ls) (v := .slice B f.ls.length d) (n := f.ls.length) (k := 1) (base := base) (by
    obtain ⟨B', d', e, ho'⟩ := h.fo j _ _ hx hf
    simp only [fiV, List.cons.injEq, Value.slice.injEq, and_true, true_and] at e
    rw [e.1, e.2]
    exact ho') (g := g) (by subst hB; rfl)
  refine ⟨by rw [List.length_set]; exact h.l1, h.l2, own_kq h.own hk (fun g' hgb hm => by
    obtain ⟨-, -, cs', hB'⟩ := h.lt g' hgb
    simp only [List.mem_singleton] at hm
    subst hm
    exact absurd (Blk.type hB' hBg).1 (by decide)), fun k x q hxk hq => ?_, h.ne⟩
  by_cases hkj : k = j
  · subst hkj
    rw [List.getElem?_set_self hjn] at hq
    simp only [Option.some.injEq] at hq
    subst hq
    rw [hx] at hxk
    simp only [Option.some.injEq] at hxk
    subst hxk
    refine ⟨B, d, ?_, ?_⟩
    · simp only [fiV, hl]
    · rw [show (FI.mk f.ino f.ver l).ls = l from rfl, hl]
      exact ho
  · rw [List.getElem?_set_ne (fun e => hkj e.symm)] at hq
    obtain ⟨B', d', e, ho'⟩ := h.fo k x q hxk hq
    refine ⟨B', d', e, own_kq ho' hk (fun g' hg' hm => ?_)⟩
    simp only [List.mem_singleton] at hm
    subst hm
    exact h.ne j k _ _ _ (fun e => hkj e.symm) hx hxk hlb (by rw [FO.lsb e]; exact hg')
/-- A list that has grown, and is put in its place. -/
theorem ORow.grow (h : ORow base w A n c cs fs) {j gF m d2 : Nat} {f : FI} {B B2 : Option Addr} {d : Nat} {l : List Int} (hA : A = some ⟨gF, 0, none⟩) (hx : cs[j]? = some (fiV f B d)) (hf : fs[j]? = some f) (hm : m = l.length)
    (r1 : w'.ownsRow base 3 1 (.slice B2 m d2) m (intC l)) (r2 : w.grownBy w' (Value.slice B f.ls.length d).ownBlock) (r3 : (Value.slice B2 m d2).ownBlock = (Value.slice B f.ls.length d).ownBlock ∨ (Value.slice B2 m d2).ownBlock = some w.heap.size) :
    ORow base (w'.setCell ⟨gF, j * 3 + 2, none⟩ (.slice B2 m d2)) A n c (cs.set j (fiV ⟨f.ino, f.ver, l⟩ B2 d2)) (fs.set j ⟨f.ino, f.ver, l⟩) := by
  subst hm
  have hjn := (List.getElem?_eq_some_iff.1 hf).1
  have hjc := (List.getElem?_eq_some_iff.1 hx).1
  obtain ⟨B', d', e, ho0⟩ := h.fo j _ _ hx hf
  simp only [fiV, List.cons.injEq, Value.slice.injEq, and_true, true_and] at e
  obtain ⟨e1, e2⟩ := e
  subst e1 e2
  have hown' : w'.ownsRow base 46 3 (.slice A n c) n cs.flatten := own_gr h.own r2 (fun g hg he => by
    obtain ⟨-, -, cs', hB'⟩ := h.lt g hg
    obtain ⟨-, cur, hB2⟩ := own_blkT ho0 he.symm
    exact absurd (Blk.type hB' hB2).1 (by decide))
  obtain ⟨g, u, cur, hA', hgb, hBF, hu, hc, hz, hset⟩ := own_setK hown' (m := j * 3 + 2) (by have := h.l1; omega)
  rw [hA] at hA'
  simp only [Option.some.injEq, Addr.mk.injEq, and_true] at hA'
  subst hA'
  have hkt : Kt [46] base w' (w'.setCell ⟨gF, j * 3 + 2, none⟩ (.slice B2 l.length d2)) := (Kt.refl _ _ _).set (.inl ⟨hgb, fun t cs hB => by simp [(Blk.type hB hBF).1]⟩) _
  refine ⟨by rw [List.length_set]; exact h.l1, by rw [List.length_set]; exact h.l2, ?_, fun k x q hxk hq => ?_, fun i k x y g hik hxi hyk hgi hgk => ?_⟩
  · rw [show (cs.set j (fiV ⟨f.ino, f.ver, l⟩ B2 d2)).flatten = cs.flatten.set (j * 3 + 2) (.slice B2 l.length d2) from flat_set h.l3 hx]
    exact hset _
  · by_cases hkj : k = j
    · subst hkj
      rw [List.getElem?_set_self hjn] at hq
      rw [List.getElem?_set_self hjc] at hxk
      simp only [Option.some.injEq] at hq hxk
      subst hq hxk
      exact FO.kt ⟨B2, d2, rfl, r1⟩ hkt (by decide)
    · rw [List.getElem?_set_ne (fun e => hkj e.symm)] at hq hxk
      obtain ⟨B', d', e, ho'⟩ := h.fo k x q hxk hq
      refine FO.kt ⟨B', d', e, own_gr ho' r2 (fun g' hg' he => ?_)⟩ hkt (by decide)
      exact h.ne j k _ _ _ (fun e => hkj e.symm) hx hxk (show lsB (fiV f B d) = some g' from he.symm) (by rw [FO.lsb e]; exact hg')
  · have hnew : ∀ g, lsB (fiV ⟨f.ino, f.ver, l⟩ B2 d2) = some g → (lsB (fiV f B d) = some g ∨ g = w.heap.size) := fun g hg => by
      rcases r3 with r3 | r3
      · exact .inl (r3.symm.trans hg)
      · exact .inr (by
          have : (Value.slice B2 l.length d2).ownBlock = some g := hg
          rw [r3] at this
          injection this with this
          exact this.symm)
    by_cases hi : i = j
    · subst hi
      rw [List.getElem?_set_self hjc] at hxi
      rw [List.getElem?_set_ne hik] at hyk
      simp only [Option.some.injEq] at hxi
      subst hxi
      rcases hnew g hgi with h1 | h1
      · exact h.ne i k _ _ g hik hx hyk h1 hgk
      · have := (h.lsb k y g hyk hgk).2
        omega
    · rw [List.getElem?_set_ne (fun e => hi e.symm)] at hxi
      by_cases hk : k = j
      · subst hk
        rw [List.getElem?_set_self hjc] at hyk
        simp only [Option.some.injEq] at hyk
        subst hyk
        rcases hnew g hgk with h1 | h1
        · exact h.ne i k _ _ g hik hxi hx hgi h1
        · have := (h.lsb i x g hxi hgi).2
          omega
      · rw [List.getElem?_set_ne (fun e => hk e.symm)] at hyk
        exact h.ne i k _ _ g hik hxi hyk hgi hgk
end
theorem DecAnsX.of_enc {l : List UInt8} {v : PV} {s base : Nat} {r : Ending} {w' : World} (h : DecAnsX l base r w') (hE : IsEnc l v s) :
    ∃ B1 d1 B2 d2 cs, (∀ (j : Nat) (x : List Value) (g : Nat), cs[j]? = some x → lsB x = some g → (Value.slice B2 v.is.length d2).ownBlock ≠ some g) ∧ r = .returned (.tuple #[.agg (partC v.e v.c v.i v.p v.x B1 v.fs.length d1 B2 v.is.length d2), .int .u32 (s : Int), .int .i64 0]) ∧ ORow base w' B1 v.fs.length d1 cs v.fs ∧ w'.ownsRow base 3 1 (.slice B2 v.is.length d2) v.is.length (intC v.is) := by
  rcases h with ⟨v', s', hE', h⟩ | ⟨hn, -⟩
  · obtain ⟨rfl, rfl⟩ := enc_inj hE.1 hE'.1 hE.2.1 hE'.2.1 (hE.2.2.symm.trans hE'.2.2)
    exact h
  · exact absurd hE (hn v s)
end Go.Proofs.YtbamdibpkkponaaDoor

/- The walk of SummaryOwn (printed by gen_smown.py). -/
namespace Go.Proofs.YtbamdibpkkponaaDoor
open Go.RowKit
attribute [local go_sem ↓] Go.wp_at_zero Go.wp_at_succ

set_option maxRecDepth 100000 in
set_option maxHeartbeats 4000000 in
theorem own_law (v : PV) (sum : Nat) (hsum : sum < 4294967296) (A1 A2 : Option Addr) (n1 c1 n2 c2 : Nat) (w : World) (sp : SpanAt w) (hf : FisAt 0 w.heap.size w A1 n1 v.fs) (hi : IntsAt 0 w.heap.size w A2 n2 v.is)
    (hn1 : n1 ≤ 9223372036854775807) (hn2 : n2 ≤ 9223372036854775807) (hl : ∀ f ∈ v.fs, (∀ x ∈ f.ls, I64 x) ∧ f.ls.length ≤ 9223372036854775807) :
    Calls Tryd.prog 6 #[.agg (partC v.e v.c v.i v.p v.x A1 n1 c1 A2 n2 c2), .int .u32 (sum : Int)] w fun r w' => r = .returned (.bool true) ∧ Below w.heap.size w w' := by
  have HF := hide hf
  have HI := hide hi
  have SP := hide sp
  have HL := hide hl
  have H64 := hide (fun f hf => (hl f hf).1)
  have HLN := hide (And.intro hf.len (IntsAt.len hi))
  clear hf hi sp hl
  unfold partC
  go_enter Tryd.func6, Tryd.ntmps6
  go_upto_region 1 with fail
  obtain ⟨w1, hw⟩ : ∃ W, W = w.alloc (.cells #[.int .i64 v.e, .int .i64 v.c, .int .i64 v.i, .int .i64 v.p, .int .i64 v.x, .slice A1 n1 c1, .slice A2 n2 c2] 25) := ⟨_, rfl⟩
  have X2 : Hid (Blk w1 w.heap.size 25 #[.int .i64 v.e, .int .i64 v.c, .int .i64 v.i, .int .i64 v.p, .int .i64 v.x, .slice A1 n1 c1, .slice A2 n2 c2]) := hide (by rw [hw]; exact Blk.new _ _ _)
  have B1 : Hid (Below w.heap.size w w1) := hide (by rw [hw]; exact (Below.refl _ _).alloc (Nat.le_refl _) _)
  rw [← hw]
  obtain ⟨g2, hg⟩ : ∃ g, g = w.heap.size := ⟨_, rfl⟩
  have HG2 := hide hg
  rw [← hg] at X2 ⊢
  clear hw hg
  go_wp2_with fail
  refine (awake_any w1 (SP.out.bel B1.out)).mono ?_
  rintro r w2 ⟨rfl, hb⟩
  replace X2 := hide (X2.out.below hb)
  have BW := hide (B1.out.trans (hb.mono B1.out.size))
  clear hb B1
  have y0 := X2.out.cell 0
  have y1 := X2.out.cell 1
  have y2 := X2.out.cell 2
  have y3 := X2.out.cell 3
  have y4 := X2.out.cell 4
  have y5 := X2.out.cell 5
  have y6 := X2.out.cell 6
  simp only [List.getElem?_toArray, List.getElem?_cons_succ, List.getElem?_cons_zero] at y0 y1 y2 y3 y4 y5 y6
  go_wp2_with fail
  clear y0 y1 y2 y3 y4 y5 y6
  refine (few_any v.e v.c v.i v.p v.x A1 A2 n1 c1 n2 c2 _ _ v.fs w2 (HF.out.below BW.out) hn1 hn2 (fun f hf => (HL.out f hf).2)).mono ?_
  rintro r w3 ⟨⟨b, rfl, hfw⟩, hb⟩
  replace X2 := hide (X2.out.below hb)
  replace BW := hide (BW.out.trans (hb.mono BW.out.size))
  clear hb
  cases b with
  | false =>
    clear hfw
    go_wp2_with fail
    refine (awake_any w3 (SP.out.bel BW.out)).mono ?_
    rintro r w4 ⟨rfl, hb⟩
    have B4 := hide (BW.out.trans (hb.mono BW.out.size))
    clear hb
    go_wp2_with fail
    go_ret
    exact ⟨rfl, B4.out⟩
  | true =>
    obtain ⟨hn40, hn150, hls150⟩ := hfw rfl
    have HLS := hide (lsN_all (M := 150) (by omega : lsN v.fs ≤ 150))
    have hls2 : lsN v.fs ≤ 150 := by omega
    clear hfw hls150
    have y0 := X2.out.cell 0
    have y1 := X2.out.cell 1
    have y2 := X2.out.cell 2
    have y3 := X2.out.cell 3
    have y4 := X2.out.cell 4
    have y5 := X2.out.cell 5
    have y6 := X2.out.cell 6
    simp only [List.getElem?_toArray, List.getElem?_cons_succ, List.getElem?_cons_zero] at y0 y1 y2 y3 y4 y5 y6
    go_wp2_with fail
    clear y0 y1 y2 y3 y4 y5 y6
    refine (own_any v.e v.c v.i v.p v.x A1 A2 n1 c1 n2 c2 _ _ _ _ v.fs v.is w3 (HF.out.below BW.out) (RwAt.below HI.out BW.out) (by omega) (by omega) (fun f hf => Nat.le_trans (HLS.out f hf) (by decide))).mono ?_
    rintro r w4 ⟨B1, d1, B2, d2, rfl, hf2, hi2, hb⟩
    have F4 := hide hf2
    have I4 := hide hi2
    replace X2 := hide (X2.out.below hb)
    replace BW := hide (BW.out.trans (hb.mono BW.out.size))
    clear hf2 hi2 hb
    unfold partC
    go_wp2_with fail
    refine (enc_any v sum hsum B1 B2 n1 d1 n2 d2 _ _ _ _ w4 (SP.out.bel BW.out) F4.out I4.out (by omega) (by omega) (by omega) H64.out).mono ?_
    rintro r w5 ⟨ha, hb⟩
    have EA := hide ha
    replace X2 := hide (X2.out.below hb)
    have S5 := hide BW.out.size
    replace BW := hide (BW.out.trans (hb.mono BW.out.size))
    have S6 := hide hb.size
    clear ha hb F4 I4
    obtain ⟨s4, hs4⟩ : ∃ s, s = w4.heap.size := ⟨_, rfl⟩
    rw [← hs4] at EA S5 S6
    clear hs4
    rcases EA.out with ⟨hck, Av, kv, rfl, ho⟩ | ⟨hck, rfl⟩
    rotate_left
    · have hckn : (v.ck != 0) = true := bne_iff_ne.2 hck
      clear EA hck
      go_wp2_with fail
      go_ret
      exact ⟨rfl, BW.out⟩
    have O6 := hide ho
    have HCK := hide hck
    clear ho EA
    have CK := hide (show 128 ≤ kv ∧ kv ≤ 9223372036854775807 by
      obtain ⟨_, _, e, h1, h2⟩ := own_form O6.out
      injection e with e1 e2 e3
      subst e3
      exact ⟨h1, h2⟩)
    have DC := hide (dec_anyX Av 128 kv w5.heap.size _ w5 (RwAt.lo_ (RwAt.of_own O6.out) (Nat.zero_le _)) (Nat.le_refl _) CK.out.1 CK.out.2 (SP.out.bel BW.out))
    clear hck
    go_wp2_with fail
    refine DC.out.mono ?_
    rintro r w6 ⟨hd, hb⟩
    obtain ⟨Q1, q1, Q2, q2, cs, hne, rfl, hO1, hI1⟩ := hd.of_enc (v := v) (s := sum) ⟨HCK.out, hsum, rfl⟩
    have OR := hide hO1
    have OI := hide hI1
    have XNE := hide hne
    replace X2 := hide (X2.out.below hb)
    replace O6 := hide (own_bel O6.out hb)
    have S7 := hide BW.out.size
    replace BW := hide (BW.out.trans (hb.mono BW.out.size))
    have L6 := hide hb.size
    clear hd hO1 hI1 hb DC hne
    unfold partC
    go_upto_region 7 with fail
    obtain ⟨s5, hs5⟩ : ∃ s, s = w5.heap.size := ⟨_, rfl⟩
    rw [← hs5] at OR OI S6 S7 L6
    clear hs5
    obtain ⟨w7, hw⟩ : ∃ W, W = w6.alloc (.cells #[.int .i64 v.e, .int .i64 v.c, .int .i64 v.i, .int .i64 v.p, .int .i64 v.x, .slice Q1 v.fs.length q1, .slice Q2 v.is.length q2] 25) := ⟨_, rfl⟩
    have X9 : Hid (Blk w7 w6.heap.size 25 #[.int .i64 v.e, .int .i64 v.c, .int .i64 v.i, .int .i64 v.p, .int .i64 v.x, .slice Q1 v.fs.length q1, .slice Q2 v.is.length q2]) := hide (by rw [hw]; exact Blk.new _ _ _)
    have ba := (show Below w6.heap.size w6 w7 by rw [hw]; exact (Below.refl _ _).alloc (Nat.le_refl _) _)
    rw [← hw]
    obtain ⟨g9, hg⟩ : ∃ g, g = w6.heap.size := ⟨_, rfl⟩
    rw [← hg] at X9 ⊢
    have G9 := hide (show g2 ≠ g9 ∧ s5 ≤ g9 by
      have h1 := X2.out.lt
      have h2 := L6.out
      omega)
    replace X2 := hide (X2.out.below ba)
    replace O6 := hide (own_bel O6.out ba)
    replace OR := hide (OR.out.kp (Kp.of_below (gs := []) ba) (by simp))
    replace OI := hide (own_bel OI.out ba)
    replace BW := hide (BW.out.trans (ba.mono BW.out.size))
    have L7 := hide (Nat.le_trans L6.out ba.size)
    clear hw ba hg L6
    go_upto_region 10 with fail
    obtain ⟨gB, curB, rfl, hgB, hBB⟩ := own_blkP O6.out (by decide)
    have GB := hide hBB
    have LB := hide hgB
    clear hgB hBB
    obtain ⟨wf, hwf⟩ : ∃ W, W = w7 := ⟨_, rfl⟩
    rw [← hwf]
    rw [← hwf] at X2 X9 O6 OR OI BW GB L7
    clear hwf
    go_loopw [45] (fun y wr => ∃ (s : Nat) (xs : List Value), s ≤ 128 ∧ y = .int .i64 (s : Int) ∧ wr.ownsRow s4 5 1 (.slice (some ⟨gB, 0, none⟩) 128 kv) 128 xs ∧ (∀ u ∈ xs, ∃ z, u = .int .u8 z) ∧ Kt [5] s4 wf wr) (fun y _ => 128 - (intOf y).toNat)
    case atStart => exact ⟨0, _, by omega, rfl, O6.out, u8s_ints _, Kt.refl _ _ _⟩
    case round =>
      obtain ⟨s, xs, hs, rfl, ho, hxs, hk⟩ := hrel
      have O7 := hide ho
      have U7 := hide hxs
      have K7 := hide hk
      clear ho hxs hk
      by_cases hls : s < 128
      · have hss : (s : Int) < 128 := by omega
        obtain ⟨g, z, cur, hA, hg, hB, hc, hfz, hset⟩ := row_bump O7.out U7.out hls
        obtain rfl : gB = g := by simpa using hA
        have HS := hide hset
        clear hset hA hg hB
        go_wp2_with fail
        go_roundw
        case rel => exact ⟨s + 1, _, by omega, by go_num, (HS.out _).choose_spec.1, (HS.out _).choose_spec.2, K7.out.set (.inl ⟨LB.out, fun t cs hB => by simp [(Blk.type hB GB.out).1]⟩) _⟩
        case measure => simp [intOf]; omega
      · have hss : ¬ (s : Int) < 128 := by omega
        replace X2 := hide (X2.out.kt K7.out (by decide))
        replace X9 := hide (X9.out.kt K7.out (by decide))
        replace OR := hide (OR.out.kt K7.out (by decide) (by decide))
        replace OI := hide (own_ktR OI.out K7.out (by decide))
        have bl : Below s4 wf wr := K7.out.below (Nat.le_trans S6.out L7.out)
        replace BW := hide (BW.out.trans (bl.mono S5.out))
        replace L7 := hide (Nat.le_trans L7.out K7.out.size)
        clear O7 U7 K7 bl O6 GB
        have y0 := X2.out.cell 0
        have y1 := X2.out.cell 1
        have y2 := X2.out.cell 2
        have y3 := X2.out.cell 3
        have y4 := X2.out.cell 4
        have y5 := X2.out.cell 5
        have y6 := X2.out.cell 6
        simp only [List.getElem?_toArray, List.getElem?_cons_succ, List.getElem?_cons_zero] at y0 y1 y2 y3 y4 y5 y6
        have z0 := X9.out.cell 0
        have z1 := X9.out.cell 1
        have z2 := X9.out.cell 2
        have z3 := X9.out.cell 3
        have z4 := X9.out.cell 4
        have z5 := X9.out.cell 5
        have z6 := X9.out.cell 6
        simp only [List.getElem?_toArray, List.getElem?_cons_succ, List.getElem?_cons_zero] at z0 z1 z2 z3 z4 z5 z6
        have SM := hide (same_pv v v Q1 Q2 A1 A2 v.fs.length q1 v.is.length q2 n1 c1 n2 c2 _ _ _ _ _ wr.heap.size _ _ wr OR.out.fis (HF.out.below BW.out) (RwAt.of_own OI.out) (RwAt.below HI.out BW.out) (by rw [HLN.out.1]; omega) (by omega) (by rw [HLN.out.2]; omega) (by omega) (fun f hf => Nat.le_trans (HLS.out f hf) (by decide)) (fun f hf => Nat.le_trans (HLS.out f hf) (by decide)))
        rw [decide_eq_true (show v = v from rfl)] at SM
        go_wp2_with fail
        clear y0 y1 y2 y3 y4 y5 y6
        clear z0 z1 z2 z3 z4 z5 z6
        refine SM.out.mono ?_
        rintro r w8 ⟨rfl, hb⟩
        replace X2 := hide (X2.out.below hb)
        replace X9 := hide (X9.out.below hb)
        replace OR := hide (OR.out.kp (Kp.of_below (gs := []) hb) (by simp))
        replace OI := hide (own_bel OI.out hb)
        replace BW := hide (BW.out.trans (hb.mono BW.out.size))
        replace L7 := hide (Nat.le_trans L7.out hb.size)
        clear hb SM
        obtain ⟨I0, hI0⟩ : ∃ x, x = (Value.slice Q2 v.is.length q2).ownBlock.toList := ⟨_, rfl⟩
        have HI0 := hide hI0
        clear hI0
        have NI := hide (show (∀ g ∈ I0, ∃ cur t, Blk w8 g t cur ∧ t = 3 ∧ s5 ≤ g) ∧ ∀ (j : Nat) (x : List Value) (g : Nat), cs[j]? = some x → lsB x = some g → g ∉ I0 by
          rw [HI0.out]
          refine ⟨fun g hg => ?_, fun j x g hx hg hm => ?_⟩
          · rw [Option.mem_toList] at hg
            obtain ⟨h1, cur, h2⟩ := own_blkT OI.out hg
            exact ⟨cur, _, h2, rfl, h1⟩
          · rw [Option.mem_toList] at hm
            exact XNE.out j x g hx hg hm)
        have N9 := hide (show g9 ∉ I0 ∧ g2 ∉ I0 from ⟨fun h => by
            obtain ⟨cur, t, h1, h2, -⟩ := NI.out.1 g9 h
            have := (Blk.type h1 X9.out).1
            rw [h2] at this
            exact absurd this (by decide), fun h => by
            obtain ⟨cur, t, h1, h2, -⟩ := NI.out.1 g2 h
            have := (Blk.type h1 X2.out).1
            rw [h2] at this
            exact absurd this (by decide)⟩)
        obtain ⟨m, hm⟩ : ∃ m, m = v.is.length := ⟨_, rfl⟩
        have HM := hide (show m = v.is.length ∧ m ≤ 150 from ⟨hm, by have := HLN.out.2; omega⟩)
        rw [← hm] at X9 OI HI0
        obtain ⟨n, hn⟩ : ∃ n, n = v.fs.length := ⟨_, rfl⟩
        have HN := hide (show n = v.fs.length ∧ n ≤ 40 from ⟨hn, by have := HLN.out.1; omega⟩)
        rw [← hn] at X9 OR
        have z6 := X9.out.cell 6
        simp only [List.getElem?_toArray, List.getElem?_cons_succ, List.getElem?_cons_zero] at z6
        rw [← hm, ← hn]
        clear hm hn XNE
        go_wp2_with fail
        clear z6
        obtain ⟨wf2, hwf⟩ : ∃ W, W = w8 := ⟨_, rfl⟩
        rw [← hwf]
        rw [← hwf] at X2 X9 OR OI BW L7 NI
        clear hwf
        go_loopw [62] (fun y wr => ∃ (s : Nat) (xs : List Value), s ≤ m ∧ y = .int .i64 (s : Int) ∧ wr.ownsRow s5 3 1 (.slice Q2 m q2) m xs ∧ (∀ u ∈ xs, ∃ z, u = .int .i64 z) ∧ Kp I0 wf2 wr) (fun y _ => m - (intOf y).toNat)
        case atStart => exact ⟨0, _, Nat.zero_le _, rfl, OI.out, intC_ints _, Kp.refl _ _⟩
        case round =>
          obtain ⟨s, xs, hs, rfl, ho, hxs, hk⟩ := hrel
          have O7 := hide ho
          have U7 := hide hxs
          have K7 := hide hk
          clear ho hxs hk
          replace X9 := hide (X9.out.kp K7.out N9.out.1)
          have z6 := X9.out.cell 6
          simp only [List.getElem?_toArray, List.getElem?_cons_succ, List.getElem?_cons_zero] at z6
          have hm150 := HM.out.2
          by_cases hls : s < m
          · have hss : (s : Int) < (m : Int) := by omega
            obtain ⟨g, z, cur, hA, hg, hB, hc, hfz, hset⟩ := row_bump O7.out U7.out hls
            have HS := hide hset
            have GI := hide (show g ∈ I0 by rw [HI0.out, hA]; simp [Value.ownBlock])
            clear hset hg hB
            subst hA
            go_wp2_with fail
            go_roundw
            case rel => exact ⟨s + 1, _, by omega, by go_num, (HS.out _).choose_spec.1, (HS.out _).choose_spec.2, K7.out.set (.inl GI.out) _⟩
            case measure => simp [intOf]; omega
          · have hss : ¬ (s : Int) < (m : Int) := by omega
            replace X2 := hide (X2.out.kp K7.out N9.out.2)
            replace OR := hide (OR.out.kpx K7.out (fun g hg => by
              obtain ⟨cur, t, h1, h2, -⟩ := NI.out.1 g hg
              exact ⟨cur, t, h1, by rw [h2]; decide⟩) NI.out.2)
            replace NI := hide (show (∀ g ∈ I0, ∃ cur t, Blk wr g t cur ∧ t = 3 ∧ s5 ≤ g) ∧ ∀ (j : Nat) (x : List Value) (g : Nat), cs[j]? = some x → lsB x = some g → g ∉ I0 by
              refine ⟨fun g hg => ?_, NI.out.2⟩
              rw [HI0.out, Option.mem_toList] at hg
              obtain ⟨h1, cur, h2⟩ := own_blkT O7.out hg
              exact ⟨cur, _, h2, rfl, h1⟩)
            have bl : Below s5 wf2 wr := K7.out.below L7.out (fun g hg => by
              rw [HI0.out, Option.mem_toList] at hg
              exact (own_blkT O7.out hg).1)
            replace BW := hide (BW.out.trans (bl.mono S7.out))
            replace L7 := hide (Nat.le_trans L7.out K7.out.size)
            clear K7 bl OI hss
            have z6 := X9.out.cell 6
            simp only [List.getElem?_toArray, List.getElem?_cons_succ, List.getElem?_cons_zero] at z6
            have f6 := X9.out.frozen 6
            go_upto_region 22 with (
              at_builtin
              refine wpList_app _ rfl (.tmp 74) (.tmp 75) _ rfl etyJ s5 (.slice Q2 m q2) m _ rfl (own_alX O7.out _) (wr.heap.size + 1) (some ⟨wr.heap.size, 0, none⟩) 1 1 (intC [9]) rfl (etyJ1 wr _) (intC_one _) (by omega) (Nat.le_trans L7.out (by simp)) ?_
              intro A9 k9 w9 hown hg _
              have K9 := hide (((Kp.refl I0 wr).alloc _).trans (show Kp I0 _ w9 by rw [HI0.out]; exact kp_gr hg))
              clear hown hg
              have X10 := hide (X9.out.kp K9.out N9.out.1)
              clear z6 f6
              have z6 := X10.out.cell 6
              simp only [List.getElem?_toArray, List.getElem?_cons_succ, List.getElem?_cons_zero] at z6
              have f6 := X10.out.frozen 6)
            clear z6 f6 O7 U7
            replace X2 := hide (X2.out.kp K9.out N9.out.2)
            replace OR := hide (OR.out.kpx K9.out (fun g hg => by
              obtain ⟨cur, t, h1, h2, -⟩ := NI.out.1 g hg
              exact ⟨cur, t, h1, by rw [h2]; decide⟩) NI.out.2)
            have bl : Below s5 wr w9 := K9.out.below L7.out (fun g hg => by
              obtain ⟨cur, t, -, -, h3⟩ := NI.out.1 g hg
              exact h3)
            replace BW := hide (BW.out.trans (bl.mono S7.out))
            replace L7 := hide (Nat.le_trans L7.out K9.out.size)
            clear bl K9 NI X9 N9 HI0
            obtain ⟨w10, hw⟩ : ∃ W, W = w9.setCell ⟨g9, 6, none⟩ (.slice A9 (m + 1) k9) := ⟨_, rfl⟩
            rw [← hw]
            have KB : Kp [g9] w9 w10 := by rw [hw]; exact (Kp.refl [g9] w9).set (p := ⟨g9, 6, none⟩) (.inl (by simp)) _
            have X9 : Hid (Blk w10 g9 25 #[.int .i64 v.e, .int .i64 v.c, .int .i64 v.i, .int .i64 v.p, .int .i64 v.x, .slice Q1 n q1, .slice A9 (m + 1) k9]) := hide (by
              rw [hw]
              have := X10.out.set 6 (.slice A9 (m + 1) k9)
              simpa [List.setIfInBounds_toArray] using this)
            replace X2 := hide (X2.out.kp KB (by simpa using G9.out.1))
            replace OR := hide (OR.out.kt (kt_box KB X10.out (Nat.zero_le _)) (by decide) (by decide))
            replace BW := hide (BW.out.trans ((KB.below L7.out (by simpa using G9.out.2)).mono S7.out))
            replace L7 := hide (Nat.le_trans L7.out KB.size)
            clear hw KB X10
            have z5 := X9.out.cell 5
            simp only [List.getElem?_toArray, List.getElem?_cons_succ, List.getElem?_cons_zero] at z5
            have HF0 := hide (show ∀ (k : Nat) (f : FI), 0 ≤ k → v.fs[k]? = some f → 1 ≤ f.ls.length ∧ f.ls.length ≤ 1000 from fun k f _ hf => by
              have hm := List.mem_of_getElem? hf
              have h1 := (PV.gd HCK.out).1.2.1 f hm
              have h2 := HLS.out f hm
              unfold gdF at h1
              omega)
            go_wp2_with fail
            clear z5
            obtain ⟨wf3, hwf⟩ : ∃ W, W = w10 := ⟨_, rfl⟩
            rw [← hwf]
            rw [← hwf] at X2 X9 OR BW L7
            clear hwf
            go_loopw [81] (fun y wr => ∃ (j : Nat) (cs' : List (List Value)) (fs' : List FI), j ≤ n ∧ y = .int .i64 (j : Int) ∧ ORow s5 wr Q1 n q1 cs' fs' ∧ (∀ (k : Nat) (f : FI), j ≤ k → fs'[k]? = some f → 1 ≤ f.ls.length ∧ f.ls.length ≤ 1000) ∧ Kt [3, 46] s5 wf3 wr) (fun y _ => n - (intOf y).toNat)
            case atStart => exact ⟨0, cs, v.fs, Nat.zero_le _, rfl, OR.out, HF0.out, Kt.refl _ _ _⟩
            case round =>
              obtain ⟨j, cs', fs', hj, rfl, ho, hfs, hk⟩ := hrel
              have O7 := hide ho
              have U7 := hide hfs
              have K7 := hide hk
              clear ho hfs hk
              replace X9 := hide (X9.out.kt K7.out (by decide))
              have z5 := X9.out.cell 5
              simp only [List.getElem?_toArray, List.getElem?_cons_succ, List.getElem?_cons_zero] at z5
              have hn40 := HN.out.2
              by_cases hls : j < n
              · have hss : (j : Int) < (n : Int) := by omega
                obtain ⟨gF, f, B, d, cur, hA, hgF, hBF, hx, hf, hro, hc2, hz2⟩ := O7.out.at hls
                obtain ⟨hl1, hl1000⟩ := U7.out j f (Nat.le_refl _) hf
                obtain ⟨gL, z, cur2, hB, hgL, hBL, hcl, hzl, hset⟩ := list_bump hro hl1
                have HS := hide hset
                have HX := hide (And.intro hx hf)
                have HBL := hide (And.intro hgL hBL)
                have HBF := hide (And.intro hgF hBF)
                obtain ⟨q, hq⟩ : ∃ q, q = f.ls.length := ⟨_, rfl⟩
                have HQ := hide hq
                rw [← hq] at hc2 hl1 hl1000
                clear hset hx hf hro hBL hgF hgL hBF hq
                subst hA hB
                go_upto_region 26 with fail
                obtain ⟨w20, hw⟩ : ∃ W, W = wr.setCell ⟨gL, 0, none⟩ (.int .i64 (wrap64 (z + 1))) := ⟨_, rfl⟩
                rw [← hw]
                obtain ⟨l, hl⟩ : ∃ l, l = f.ls.set 0 (wrap64 (z + 1)) := ⟨_, rfl⟩
                have hlq : l.length = q := by rw [hl, List.length_set, HQ.out]
                have KL := hide (show Kp [gL] wr w20 by rw [hw]; exact (Kp.refl [gL] wr).set (p := ⟨gL, 0, none⟩) (.inl (by simp)) _)
                have R20 := hide (show w20.ownsRow s5 3 1 (.slice (some ⟨gL, 0, none⟩) q d) q (intC l) by rw [hw, hl, HQ.out]; exact HS.out _)
                have O20 := hide (O7.out.put (w' := w20) (l := l) HX.out.1 HX.out.2 rfl (by rw [hlq, HQ.out]) KL.out (by rw [← HQ.out]; exact R20.out))
                have HX2 := hide (show cs'[j]? = some (fiV ⟨f.ino, f.ver, l⟩ (some ⟨gL, 0, none⟩) d) ∧ (fs'.set j ⟨f.ino, f.ver, l⟩)[j]? = some ⟨f.ino, f.ver, l⟩ by
                  refine ⟨?_, List.getElem?_set_self (List.getElem?_eq_some_iff.1 HX.out.2).1⟩
                  rw [HX.out.1]
                  simp only [fiV, hlq, ← HQ.out])
                have U20 := hide (show ∀ (k : Nat) (g : FI), j + 1 ≤ k → fs'[k]? = some g → 1 ≤ g.ls.length ∧ g.ls.length ≤ 1000 from fun k g hk hg => U7.out k g (by omega) hg)
                have KLT := hide (kt_box KL.out HBL.out.2 HBL.out.1)
                have K20 := hide (K7.out.trans (show Kt [3, 46] s5 wr w20 by
                  rw [hw]
                  exact (Kt.refl _ _ _).set (.inl ⟨HBL.out.1, fun t cs hB => by simp [(Blk.type hB HBL.out.2).1]⟩) _))
                have X20 := hide (X9.out.kt KLT.out (by decide))
                have FB := hide (HBF.out.2.kt KLT.out (by decide))
                have SC := hide (fun (w' : World) (h9 : Blk w' g9 25 #[.int .i64 v.e, .int .i64 v.c, .int .i64 v.i, .int .i64 v.p, .int .i64 v.x, .slice (some ⟨gF, 0, none⟩) n q1, .slice A9 (m + 1) k9]) (h8 : Blk w' gF 46 cur) => show w'.cell? ⟨g9, 5, none⟩ = some (.slice (some ⟨gF, 0, none⟩) n q1) ∧ w'.cell? ⟨gF, j * 3 + 2, none⟩ = some (.slice (some ⟨gL, 0, none⟩) q d) from ⟨h9.cell 5, (h8.cell _).trans ((HBF.out.2.cell _).symm.trans hc2)⟩)
                clear hw hl z5 hc2 hz2 hcl hzl HS O7 U7 K7 KL KLT
                have bd := (Below.refl w20.heap.size w20).drew
                have X8 := hide (X20.out.below bd)
                have F8 := hide (FB.out.below bd)
                have s0 := SC.out _ X8.out F8.out
                refine wp_region_noPanic ?_
                refine wp_region_last (n := 13) (S := (fun w' => w'.cell? ⟨g9, 5, none⟩ = some (.slice (some ⟨gF, 0, none⟩) n q1) ∧ w'.cell? ⟨gF, j * 3 + 2, none⟩ = some (.slice (some ⟨gL, 0, none⟩) q d))) (by kernel_rfl) (by rfl) (by kernel_rfl) ?_ (fun hHeld => ?_)
                · ((try dsimp only) <;> (first | trivial | assumption | go_keep))
                clear s0
                refine wpAnyH_take (i := 0) (v := ?_) (by simp only [List.getElem?_toArray, List.getElem?_cons_succ, List.getElem?_cons_zero]; rfl) (by kernel_rfl) (by kernel_rfl) (by kernel_rfl) (fun _ _ _ h => h) (Or.inl ⟨by rfl, ?_⟩) (by assumption) ?_
                rotate_left 1
                · (intro w hSw; (try dsimp only at hSw); go_simp; try with_reducible rfl)
                try simp only [Act.put, List.setIfInBounds_toArray, List.set_cons_zero, List.set_cons_succ]
                refine wpAnyH_take (i := 1) (v := ?_) (by simp only [List.getElem?_toArray, List.getElem?_cons_succ, List.getElem?_cons_zero]; rfl) (by kernel_rfl) (by kernel_rfl) (by kernel_rfl) (fun _ _ _ h => h) (Or.inl ⟨by rfl, ?_⟩) (by assumption) ?_
                rotate_left 1
                · (intro w hSw; (try dsimp only at hSw); go_simp; try with_reducible rfl)
                try simp only [Act.put, List.setIfInBounds_toArray, List.set_cons_zero, List.set_cons_succ]
                refine wpAnyH_take (i := 2) (v := ?_) (by simp only [List.getElem?_toArray, List.getElem?_cons_succ, List.getElem?_cons_zero]; rfl) (by kernel_rfl) (by kernel_rfl) (by kernel_rfl) (fun _ _ _ h => h) (Or.inl ⟨by rfl, ?_⟩) (by assumption) ?_
                rotate_left 1
                · (intro w hSw; (try dsimp only at hSw); go_simp; try with_reducible rfl)
                try simp only [Act.put, List.setIfInBounds_toArray, List.set_cons_zero, List.set_cons_succ]
                refine wpAnyH_take (i := 3) (v := ?_) (by simp only [List.getElem?_toArray, List.getElem?_cons_succ, List.getElem?_cons_zero]; rfl) (by kernel_rfl) (by kernel_rfl) (by kernel_rfl) (fun _ _ _ h => h) (Or.inl ⟨by rfl, ?_⟩) (by assumption) ?_
                rotate_left 1
                · (intro w hSw; (try dsimp only at hSw); go_simp; try with_reducible rfl)
                try simp only [Act.put, List.setIfInBounds_toArray, List.set_cons_zero, List.set_cons_succ]
                refine wpAnyH_take (i := 4) (v := ?_) (by simp only [List.getElem?_toArray, List.getElem?_cons_succ, List.getElem?_cons_zero]; rfl) (by kernel_rfl) (by kernel_rfl) (by kernel_rfl) (fun _ _ _ h => h) (Or.inl ⟨by rfl, ?_⟩) (by assumption) ?_
                rotate_left 1
                · (intro w hSw; (try dsimp only at hSw); go_simp; try with_reducible rfl)
                try simp only [Act.put, List.setIfInBounds_toArray, List.set_cons_zero, List.set_cons_succ]
                refine wpAnyH_take (i := 5) (v := ?_) (by simp only [List.getElem?_toArray, List.getElem?_cons_succ, List.getElem?_cons_zero]; rfl) (by kernel_rfl) (by kernel_rfl) (by kernel_rfl) (fun _ _ _ h => h) (Or.inl ⟨by rfl, ?_⟩) (by assumption) ?_
                rotate_left 1
                · (intro w hSw; (try dsimp only at hSw); go_simp; try with_reducible rfl)
                try simp only [Act.put, List.setIfInBounds_toArray, List.set_cons_zero, List.set_cons_succ]
                refine wpAnyH_take (i := 6) (v := ?_) (by simp only [List.getElem?_toArray, List.getElem?_cons_succ, List.getElem?_cons_zero]; rfl) (by kernel_rfl) (by kernel_rfl) (by kernel_rfl) (fun _ _ _ h => h) (Or.inl ⟨by rfl, ?_⟩) (by assumption) ?_
                rotate_left 1
                · (intro w hSw; (try dsimp only at hSw); go_simp; try with_reducible rfl)
                try simp only [Act.put, List.setIfInBounds_toArray, List.set_cons_zero, List.set_cons_succ]
                refine wpAnyH_take (i := 7) (v := ?_) (by simp only [List.getElem?_toArray, List.getElem?_cons_succ, List.getElem?_cons_zero]; rfl) (by kernel_rfl) (by kernel_rfl) (by kernel_rfl) (fun _ _ _ h => h) (Or.inl ⟨by rfl, ?_⟩) (by assumption) ?_
                rotate_left 1
                · (intro w hSw; (try dsimp only at hSw); go_simp; try with_reducible rfl)
                try simp only [Act.put, List.setIfInBounds_toArray, List.set_cons_zero, List.set_cons_succ]
                refine wpAnyH_take (i := 8) (v := ?_) (by simp only [List.getElem?_toArray, List.getElem?_cons_succ, List.getElem?_cons_zero]; rfl) (by kernel_rfl) (by kernel_rfl) (by kernel_rfl) (fun _ _ _ h => h) (Or.inl ⟨by rfl, ?_⟩) (by assumption) ?_
                rotate_left 1
                · (intro w hSw; (try dsimp only at hSw); go_simp; try with_reducible rfl)
                try simp only [Act.put, List.setIfInBounds_toArray, List.set_cons_zero, List.set_cons_succ]
                refine wpAnyH_ready (rs := [9]) (by kernel_rfl) (by simp) ?_
                refine AllReadyH.cons (by simp only [List.getElem?_toArray, List.getElem?_cons_succ, List.getElem?_cons_zero]; rfl) (fun K hK => ?_) ?_
                rotate_left 1
                · exact AllReadyH.nil
                go_simp
                refine hK.out _ _ ?_ (fun hHeld2 => ?_)
                · ((try dsimp only) <;> (exact SC.out _ (X8.out.alloc _) (F8.out.alloc _)))
                clear hHeld
                have hHeld := hHeld2
                clear hHeld2 hK K
                try simp only [Act.put, List.setIfInBounds_toArray, List.set_cons_zero, List.set_cons_succ]
                have b19 := hide (bd.alloc (by simp) (.cells #[.int .i64 9] 3))
                have X91 := hide (X20.out.below b19.out)
                have F91 := hide (FB.out.below b19.out)
                have R91 := hide (own_bel R20.out b19.out)
                have O91 := hide (O20.out.kp (Kp.of_below (gs := []) b19.out) (by simp))
                have K91 := hide (K20.out.trans (Kt.of_below b19.out))
                have L91 := hide (Nat.le_trans L7.out K91.out.size)
                refine wpAnyH_ready (rs := [10]) (by kernel_rfl) (by simp) ?_
                refine AllReadyH.cons (by simp only [List.getElem?_toArray, List.getElem?_cons_succ, List.getElem?_cons_zero]; rfl) (fun K hK => ?_) ?_
                rotate_left 1
                · exact AllReadyH.nil
                refine step_app rfl (.tmp 102) (.tmp 103) _ (by rfl) etyJ s5 (.slice (some ⟨gL, 0, none⟩) q d) q _ (by rfl) R91.out (w20.heap.size + 1) (some ⟨w20.heap.size, 0, none⟩) 1 1 (intC [9]) (by rfl) (etyJ1 w20.drew _) (intC_one _) (by omega) L91.out ?_; intro A8 k8 w21 hown hg h3; have KG := hide (show Kt [3] s5 _ w21 from Kt.gr hg (fun g e => (by obtain ⟨h1, cur, h2⟩ := own_blkT R91.out e; exact ⟨h1, _, cur, h2, by simp⟩))); have X21 := hide (X91.out.kt KG.out (by decide)); have F21 := hide (F91.out.kt KG.out (by decide)); have O22 := hide (O91.out.grow (l := l ++ [9]) rfl HX2.out.1 HX2.out.2 (by rw [List.length_append, hlq]; rfl) (by rw [← intC_apps]; exact hown) hg h3); have K21 := hide (K91.out.trans (Kt.gr hg (fun g e => (by obtain ⟨h1, cur, h2⟩ := own_blkT R91.out e; exact ⟨h1, _, cur, h2, by simp⟩)))); clear hown hg h3
                refine hK.out _ _ ?_ (fun hHeld2 => ?_)
                · ((try dsimp only) <;> (exact SC.out _ X21.out F21.out))
                clear hHeld
                have hHeld := hHeld2
                clear hHeld2 hK K
                try simp only [Act.put, List.setIfInBounds_toArray, List.set_cons_zero, List.set_cons_succ]
                refine wpAnyH_take (i := 11) (v := ?_) (by simp only [List.getElem?_toArray, List.getElem?_cons_succ, List.getElem?_cons_zero]; rfl) (by kernel_rfl) (by kernel_rfl) (by kernel_rfl) (fun _ _ _ h => h) (Or.inl ⟨by rfl, ?_⟩) (by assumption) ?_
                rotate_left 1
                · (intro w hSw; (try dsimp only at hSw); go_simp; try with_reducible rfl)
                try simp only [Act.put, List.setIfInBounds_toArray, List.set_cons_zero, List.set_cons_succ]
                refine wpAnyH_take (i := 12) (v := ?_) (by simp only [List.getElem?_toArray, List.getElem?_cons_succ, List.getElem?_cons_zero]; rfl) (by kernel_rfl) (by kernel_rfl) (by kernel_rfl) (fun _ _ _ h => h) (Or.inl ⟨by rfl, ?_⟩) (by assumption) ?_
                rotate_left 1
                · (intro w hSw; (try dsimp only at hSw); go_simp; try with_reducible rfl)
                try simp only [Act.put, List.setIfInBounds_toArray, List.set_cons_zero, List.set_cons_succ]
                have c2 := (SC.out _ X21.out F21.out).2
                have f2 := F21.out.frozen (j * 3 + 2)
                refine wpAnyH_done (by kernel_rfl) ?_ _
                refine LastQ.step (by simp only [List.getElem?_toArray, List.getElem?_cons_succ, List.getElem?_cons_zero]; rfl) (by rfl) ?_
                go_simp
                refine NoPanic.normal ?_
                have K22 := hide (K21.out.trans ((Kt.refl [3, 46] s5 w21).set (p := ⟨gF, j * 3 + 2, none⟩) (.inl ⟨HBF.out.1, fun t cs hB => by simp [(Blk.type hB F21.out).1]⟩) (.slice A8 (q + 1) k8)))
                clear hHeld c2 f2 X21 F21 K21 X91 F91 R91 O91 K91 L91 b19 X8 F8 X20 FB SC K20 KG
                go_wp2_with fail
                refine ⟨⟨j + 1, _, _, by omega, rfl, O22.out, fun k g hk hg => ?_, K22.out⟩, by simp [intOf]; omega⟩
                have hne : ¬ j = k := by omega
                rw [List.getElem?_set_ne hne, List.getElem?_set_ne hne] at hg
                exact U20.out k g hk hg
              · have hss : ¬ (j : Int) < (n : Int) := by omega
                replace X2 := hide (X2.out.kt K7.out (by decide))
                have bl : Below s5 wf3 wr := K7.out.below L7.out
                replace BW := hide (BW.out.trans (bl.mono S7.out))
                clear bl O7 U7 K7 X9
                have y0 := X2.out.cell 0
                have y1 := X2.out.cell 1
                have y2 := X2.out.cell 2
                have y3 := X2.out.cell 3
                have y4 := X2.out.cell 4
                have y5 := X2.out.cell 5
                have y6 := X2.out.cell 6
                simp only [List.getElem?_toArray, List.getElem?_cons_succ, List.getElem?_cons_zero] at y0 y1 y2 y3 y4 y5 y6
                go_wp2_with fail
                clear y0 y1 y2 y3 y4 y5 y6 z5
                refine (own_any v.e v.c v.i v.p v.x A1 A2 n1 c1 n2 c2 _ _ _ _ v.fs v.is wr (HF.out.below BW.out) (RwAt.below HI.out BW.out) (by omega) (by omega) (fun f hf => Nat.le_trans (HLS.out f hf) (by decide))).mono ?_
                rintro r w24 ⟨E1, e1, E2, e2, rfl, hf2, hi2, hb⟩
                have F4 := hide hf2
                have I4 := hide hi2
                replace X2 := hide (X2.out.below hb)
                replace BW := hide (BW.out.trans (hb.mono BW.out.size))
                clear hf2 hi2 hb
                unfold partC
                go_wp2_with fail
                refine (enc_any v sum hsum E1 E2 n1 e1 n2 e2 _ _ _ _ w24 (SP.out.bel BW.out) F4.out I4.out (by omega) (by omega) (by omega) H64.out).mono ?_
                rintro r w25 ⟨ha, hb⟩
                have EA := hide ha
                replace X2 := hide (X2.out.below hb)
                replace BW := hide (BW.out.trans (hb.mono BW.out.size))
                clear ha hb F4 I4
                obtain ⟨Ae, ke, rfl, ho⟩ : ∃ A k, r = .returned (.tuple #[.slice A 128 k, .int .i64 0]) ∧ OwnBy w25 w24.heap.size A 128 k (v.enc sum) := (by
                  rcases EA.out with ⟨-, h⟩ | ⟨h, -⟩
                  · exact h
                  · exact absurd HCK.out h)
                have O6 := hide ho
                clear ho EA
                have CK2 := hide (show 128 ≤ ke ∧ ke ≤ 9223372036854775807 by
                  obtain ⟨_, _, e, h1, h2⟩ := own_form O6.out
                  injection e with e1 e2 e3
                  subst e3
                  exact ⟨h1, h2⟩)
                have DC := hide (dec_any Ae 128 ke w25.heap.size _ w25 (RwAt.lo_ (RwAt.of_own O6.out) (Nat.zero_le _)) (Nat.le_refl _) CK2.out.1 CK2.out.2 (SP.out.bel BW.out))
                go_wp2_with fail
                refine DC.out.mono ?_
                rintro r w26 ⟨hd, hb⟩
                obtain ⟨R1, r1, R2, r2, cs2, rfl, hO1, hI1⟩ := hd.of_enc (v := v) (s := sum) ⟨HCK.out, hsum, rfl⟩
                have OR := hide hO1
                have OI := hide hI1
                replace X2 := hide (X2.out.below hb)
                replace BW := hide (BW.out.trans (hb.mono BW.out.size))
                clear hd hO1 hI1 hb DC
                unfold partC
                go_upto_region 30 with fail
                obtain ⟨w27, hw⟩ : ∃ W, W = w26.alloc (.cells #[.int .i64 v.e, .int .i64 v.c, .int .i64 v.i, .int .i64 v.p, .int .i64 v.x, .slice R1 v.fs.length r1, .slice R2 v.is.length r2] 25) := ⟨_, rfl⟩
                have X15 : Hid (Blk w27 w26.heap.size 25 #[.int .i64 v.e, .int .i64 v.c, .int .i64 v.i, .int .i64 v.p, .int .i64 v.x, .slice R1 v.fs.length r1, .slice R2 v.is.length r2]) := hide (by rw [hw]; exact Blk.new _ _ _)
                have ba := (show Below w26.heap.size w26 w27 by rw [hw]; exact (Below.refl _ _).alloc (Nat.le_refl _) _)
                rw [← hw]
                obtain ⟨g15, hg⟩ : ∃ g, g = w26.heap.size := ⟨_, rfl⟩
                rw [← hg] at X15 ⊢
                replace X2 := hide (X2.out.below ba)
                replace OR := hide (OR.out.kp (Kp.of_below (gs := []) ba) (by simp))
                replace OI := hide (own_bel OI.out ba)
                replace BW := hide (BW.out.trans (ba.mono BW.out.size))
                clear hw ba hg
                have y0 := X2.out.cell 0
                have y1 := X2.out.cell 1
                have y2 := X2.out.cell 2
                have y3 := X2.out.cell 3
                have y4 := X2.out.cell 4
                have y5 := X2.out.cell 5
                have y6 := X2.out.cell 6
                simp only [List.getElem?_toArray, List.getElem?_cons_succ, List.getElem?_cons_zero] at y0 y1 y2 y3 y4 y5 y6
                have z0 := X15.out.cell 0
                have z1 := X15.out.cell 1
                have z2 := X15.out.cell 2
                have z3 := X15.out.cell 3
                have z4 := X15.out.cell 4
                have z5 := X15.out.cell 5
                have z6 := X15.out.cell 6
                simp only [List.getElem?_toArray, List.getElem?_cons_succ, List.getElem?_cons_zero] at z0 z1 z2 z3 z4 z5 z6
                have SM := hide (same_pv v v R1 R2 A1 A2 v.fs.length r1 v.is.length r2 n1 c1 n2 c2 _ _ _ _ _ w27.heap.size _ _ w27 OR.out.fis (HF.out.below BW.out) (RwAt.of_own OI.out) (RwAt.below HI.out BW.out) (by rw [HLN.out.1]; omega) (by omega) (by rw [HLN.out.2]; omega) (by omega) (fun f hf => Nat.le_trans (HLS.out f hf) (by decide)) (fun f hf => Nat.le_trans (HLS.out f hf) (by decide)))
                rw [decide_eq_true (show v = v from rfl)] at SM
                go_wp2_with fail
                clear y0 y1 y2 y3 y4 y5 y6
                clear z0 z1 z2 z3 z4 z5 z6
                refine SM.out.mono ?_
                rintro r w28 ⟨rfl, hb⟩
                replace BW := hide (BW.out.trans (hb.mono BW.out.size))
                clear hb SM
                go_wp2_with fail
                go_ret
                exact ⟨rfl, BW.out⟩
end Go.Proofs.YtbamdibpkkponaaDoor
