import Derived.Test.YtbamdibpkkponaaDoorJb02
import Derived.Test.YtbamdibpkkponaaDoorJb05
import Derived.Test.YtbamdibpkkponaaDoorJb01
import Derived.Test.YtbamdibpkkponaaDoorJb04
import Derived.Test.YtbamdibpkkponaaDoorProg
import Derived.RangeFuncNested
import Derived.RangeFuncBound
import Derived.RangeFuncBox
import Derived.RangeFuncLeaves
import Derived.Shelf.Abstract
import Derived.Shelf.RegionOpen
import Derived.WalkKit
import Derived.OwnWalkIn
import Derived.TacticsInMore
import Derived.LoopNIn
import Derived.LoopIn
import Derived.Deep.RegionHeld3
import Derived.Deep.MidRow
set_option linter.unusedVariables false
set_option linter.unusedSimpArgs false
/- What summary.Decode makes: files whose lists are the call's own, each with a block of its own; a reader's box. -/
namespace Go.Proofs.YtbamdibpkkponaaDoor
open Go.RowKit

theorem own_ktR {w w' : World} {base b n k : Nat} {e : TypeId} {v : Value} {xs : List Value} {T : List TypeId} (h : w.ownsRow base e k v n xs) (hk : Kt T b w w') (he : e ∉ T) : w'.ownsRow base e k v n xs := by
  refine ⟨h.1, ?_⟩
  rcases h.2 with h0 | ⟨g, cap, cur, rfl, h2, h3, h4⟩
  · exact .inl h0
  · exact .inr ⟨g, cap, cur, rfl, h2, Blk.kt h3 hk he, h4⟩
/-- Only box g is written: so all that is no reader stays. -/
theorem kt_box {w w' : World} {g base : Nat} {t : TypeId} {cs : Array Value} (h : Kp [g] w w') (hB : Blk w g t cs) (hg : base ≤ g) : Kt [t] base w w' :=
  ⟨h.os, h.tape, h.output, h.size, fun k hk hn => h.block k hk (by
    rintro (hm : k ∈ [g])
    simp only [List.mem_singleton] at hm
    subst hm
    rcases hn with hn | ⟨t', cs', hb, ht⟩
    · omega
    · exact ht (by rw [(Blk.type hb hB).1]; exact List.mem_singleton.2 rfl))⟩
/-- A reader's box: the bytes that are still to come. -/
def RdB (S : Nat) (w : World) (g : Nat) (l : List UInt8) : Prop := ∃ A n c, Blk w g 65 #[.slice A n c] ∧ ByT 0 S w A n l ∧ n ≤ c ∧ c ≤ 9223372036854775807
theorem RdB.below {S g : Nat} {w w' : World} {l : List UInt8} (h : RdB S w g l) (hb : Below w.heap.size w w') : RdB S w' g l := by
  obtain ⟨A, n, c, h1, h2, h3, h4⟩ := h
  exact ⟨A, n, c, h1.below hb, RwAt.below h2 hb, h3, h4⟩
/-- A write into a block of another type. -/
theorem RdB.far {S g : Nat} {w : World} {l : List UInt8} (h : RdB S w g l) {p : Addr} {t : TypeId} {cs : Array Value} (hB : Blk w p.block t cs) (hS : S ≤ p.block) (h1 : t ≠ 65) (h2 : t ≠ 5) (u : Value) : RdB S (w.setCell p u) g l := by
  obtain ⟨A, n, c, k1, k2, k3, k4⟩ := h
  have hk : Kt [t] S w (w.setCell p u) := (Kt.refl _ _ _).set (.inl ⟨hS, fun t' cs' hB' => by simp [(Blk.type hB' hB).1]⟩) u
  exact ⟨A, n, c, k1.far (p := p) (fun e => h1 (by rw [e] at k1; exact (Blk.type hB k1).1)) u, RwAt.kt k2 hk (by simpa using Ne.symm h2), k3, k4⟩
/-- Writes into one box of another type. -/
theorem RdB.box {S g p : Nat} {w w' : World} {l : List UInt8} (h : RdB S w g l) {t : TypeId} {cs : Array Value} (hk : Kp [p] w w') (hB : Blk w p t cs) (hS : S ≤ p) (h1 : t ≠ 65) (h2 : t ≠ 5) : RdB S w' g l := by
  obtain ⟨A, n, c, k1, k2, k3, k4⟩ := h
  have hne : g ≠ p := fun e => h1 (by rw [e] at k1; exact (Blk.type hB k1).1)
  exact ⟨A, n, c, k1.kp hk (by simpa using hne), RwAt.kt k2 (kt_box hk hB hS) (by simpa using Ne.symm h2), k3, k4⟩
/-- Growth of a row of another type. -/
theorem RdB.gr {S g : Nat} {w w' : World} {l : List UInt8} {r : Option Nat} (h : RdB S w g l) (hg : w.grownBy w' r) {t : TypeId} (hr : ∀ k, r = some k → S ≤ k ∧ ∃ cs, Blk w k t cs) (h1 : t ≠ 65) (h2 : t ≠ 5) : RdB S w' g l := by
  obtain ⟨A, n, c, k1, k2, k3, k4⟩ := h
  have hk : Kt [t] S w w' := Kt.gr hg (fun k e => by
    obtain ⟨hs, cs, hB⟩ := hr k e
    exact ⟨hs, t, cs, hB, by simp⟩)
  refine ⟨A, n, c, blk_gr k1 hg (fun e => ?_), RwAt.kt k2 hk (by simpa using Ne.symm h2), k3, k4⟩
  obtain ⟨-, cs, hB⟩ := hr g e.symm
  exact h1 (Blk.type hB k1).1

theorem own_blkT {w : World} {base n k : Nat} {e : TypeId} {v : Value} {xs : List Value} (O : w.ownsRow base e k v n xs) {g : Nat} (hg : v.ownBlock = some g) : base ≤ g ∧ ∃ cs, Blk w g e cs := by
  rcases O.2 with ⟨hv, -⟩ | ⟨g', cap, cur, hv, hb, hB', -⟩
  · rw [hv] at hg; cases hg
  · rw [hv] at hg
    simp only [Value.ownBlock, Option.some.injEq] at hg
    subst hg
    exact ⟨hb, cur, hB'⟩
theorem blk_grT {w w' : World} {g base n k : Nat} {t e : TypeId} {cs : Array Value} {v : Value} {xs : List Value} (hX : Blk w g t cs) (O : w.ownsRow base e k v n xs) (hne : t ≠ e) (hg : w.grownBy w' v.ownBlock) : Blk w' g t cs :=
  blk_gr hX hg (fun h => by
    obtain ⟨-, cs', hB⟩ := own_blkT O h.symm
    exact hne (Blk.type hX hB).1)
theorem RdB.grO {S g base n k : Nat} {w w' : World} {l : List UInt8} {e : TypeId} {v : Value} {xs : List Value} (h : RdB S w g l) (O : w.ownsRow base e k v n xs) (hS : S ≤ base) (hg : w.grownBy w' v.ownBlock) (h1 : e ≠ 65) (h2 : e ≠ 5) : RdB S w' g l :=
  h.gr hg (fun q hq => by
    obtain ⟨hb, hB⟩ := own_blkT O hq
    exact ⟨Nat.le_trans hS hb, hB⟩) h1 h2
/-- A file whose list is the call's own. -/
def FO (base : Nat) (w : World) (x : List Value) (f : FI) : Prop := ∃ A c, x = fiV f A c ∧ w.ownsRow base 3 1 (.slice A f.ls.length c) f.ls.length (intC f.ls)
/-- The block of its list. -/
def lsB (x : List Value) : Option Nat := (x[2]?).bind fun v => v.ownBlock
theorem FO.fiC {base : Nat} {w : World} {x : List Value} {f : FI} (h : FO base w x f) : FiC base base w x f := by
  obtain ⟨A, c, e, ho⟩ := h
  exact ⟨A, c, e, RwAt.of_own ho⟩
theorem FO.lt {base : Nat} {w : World} {x : List Value} {f : FI} (h : FO base w x f) : ∀ g, lsB x = some g → base ≤ g ∧ g < w.heap.size := by
  obtain ⟨A, c, rfl, ho⟩ := h
  intro g hg
  exact ho.lt g hg
theorem FO.kt {base b : Nat} {w w' : World} {x : List Value} {f : FI} {T : List TypeId} (h : FO base w x f) (hk : Kt T b w w') (hT : 3 ∉ T) : FO base w' x f := by
  obtain ⟨A, c, e, ho⟩ := h
  exact ⟨A, c, e, own_ktR ho hk hT⟩
theorem FO.kp {base : Nat} {w w' : World} {x : List Value} {f : FI} {gs : List Nat} (h : FO base w x f) (hk : Kp gs w w') (hg : ∀ g ∈ gs, g < base) : FO base w' x f := by
  obtain ⟨A, c, e, ho⟩ := h
  exact ⟨A, c, e, own_kq ho hk (fun g hgb hm => by have := (ho.lt g hgb).1; have := hg g hm; omega)⟩
structure ORow (base : Nat) (w : World) (A : Option Addr) (n c : Nat) (cs : List (List Value)) (fs : List FI) : Prop where
  l1 : fs.length = n
  l2 : cs.length = n
  own : w.ownsRow base 46 3 (.slice A n c) n cs.flatten
  fo : ∀ (j : Nat) (x : List Value) (f : FI), cs[j]? = some x → fs[j]? = some f → FO base w x f
  ne : ∀ (j k : Nat) (x y : List Value) (g : Nat), j ≠ k → cs[j]? = some x → cs[k]? = some y → lsB x = some g → lsB y ≠ some g
section
variable {base n c : Nat} {w w' : World} {A : Option Addr} {cs : List (List Value)} {fs : List FI}
theorem ORow.nil : ORow base w none 0 0 [] [] := ⟨rfl, rfl, World.ownsRow_nil _ _ _ _, by simp, by simp⟩
theorem ORow.fis (h : ORow base w A n c cs fs) : FisAt base base w A n fs := ⟨cs, h.l1, h.l2, RwAt.of_own h.own, fun j x f hx hf => (h.fo j x f hx hf).fiC⟩
theorem ORow.lt (h : ORow base w A n c cs fs) : ∀ g, (Value.slice A n c).ownBlock = some g → base ≤ g ∧ g < w.heap.size ∧ ∃ cs, Blk w g 46 cs := fun g hg => by
  rcases h.own.2 with ⟨e, -⟩ | ⟨g', cap, cur, e1, e2, e3, e4⟩
  · rw [e] at hg; cases hg
  · rw [e1] at hg
    simp only [Value.ownBlock, Option.some.injEq] at hg
    subst hg
    exact ⟨e2, Blk.lt e3, cur, e3⟩
theorem ORow.bq {base' : Nat} (h : ORow base w A n c cs fs) (hb : base' ≤ base) : ORow base' w A n c cs fs :=
  ⟨h.l1, h.l2, own_bq h.own hb, fun j x f hx hf => by
    obtain ⟨A1, c1, e, ho⟩ := h.fo j x f hx hf
    exact ⟨A1, c1, e, own_bq ho hb⟩, h.ne⟩
theorem ORow.lsb (h : ORow base w A n c cs fs) : ∀ (j : Nat) (x : List Value) (g : Nat), cs[j]? = some x → lsB x = some g → base ≤ g ∧ g < w.heap.size := fun j x g hx hg => by
  have hj := (List.getElem?_eq_some_iff.1 hx).1
  rw [h.l2] at hj
  exact (h.fo j x _ hx (List.getElem?_eq_getElem (by rw [h.l1]; exact hj))).lt g hg
theorem ORow.kp (h : ORow base w A n c cs fs) {gs : List Nat} (hk : Kp gs w w') (hg : ∀ g ∈ gs, g < base) : ORow base w' A n c cs fs :=
  ⟨h.l1, h.l2, own_kq h.own hk (fun g hgb hm => by have := (h.lt g hgb).1; have := hg g hm; omega), fun j x f hx hf => (h.fo j x f hx hf).kp hk hg, h.ne⟩
/-- One more, in the row that append has left. -/
theorem ORow.app {base2 c' : Nat} {A' A3 : Option Addr} {c3 : Nat} {f : FI} (h : ORow base w A n c cs fs) (hb2 : base ≤ base2) (hw2 : ∀ (j : Nat) (x : List Value) (g : Nat), cs[j]? = some x → lsB x = some g → g < base2) (ho : w.ownsRow base2 3 1 (.slice A3 f.ls.length c3) f.ls.length (intC f.ls))
    (r1 : w'.ownsRow base 46 3 (.slice A' (n + 1) c') (n + 1) (cs.flatten ++ fiV f A3 c3)) (r2 : w.grownBy w' (Value.slice A n c).ownBlock) : ORow base w' A' (n + 1) c' (cs ++ [fiV f A3 c3]) (fs ++ [f]) := by
  have hk : Kt [46] base w w' := Kt.gr r2 (fun g hg => by
    obtain ⟨hb, -, cs', hB⟩ := h.lt g hg
    exact ⟨hb, _, cs', hB, by simp⟩)
  have ho' : FO base w' (fiV f A3 c3) f := FO.kt ⟨A3, c3, rfl, own_bq ho hb2⟩ hk (by decide)
  refine ⟨by rw [List.length_append, h.l1]; rfl, by rw [List.length_append, h.l2]; rfl, by rw [List.flatten_append]; simpa using r1, fun j y q hy hq => ?_, fun j k x y g hjk hx hy hg => ?_⟩
  · rcases Nat.lt_or_ge j n with hj | hj
    · rw [List.getElem?_append_left (by rw [h.l2]; omega)] at hy
      rw [List.getElem?_append_left (by rw [h.l1]; omega)] at hq
      exact (h.fo j y q hy hq).kt hk (by decide)
    · rw [List.getElem?_append_right (by rw [h.l2]; omega), h.l2] at hy
      rw [List.getElem?_append_right (by rw [h.l1]; omega), h.l1] at hq
      have hj0 : j - n = 0 := by
        have := (List.getElem?_eq_some_iff.1 hy).1
        simpa using this
      rw [hj0] at hy hq
      simp only [List.getElem?_cons_zero, Option.some.injEq] at hy hq
      subst hy hq
      exact ho'
  · have hnew : ∀ g, lsB (fiV f A3 c3) = some g → base2 ≤ g := fun g hg => (ho.lt g hg).1
    have hcase : ∀ (i : Nat) (z : List Value), (cs ++ [fiV f A3 c3])[i]? = some z → (i < n ∧ cs[i]? = some z) ∨ (i = n ∧ z = fiV f A3 c3) := fun i z hz => by
      rcases Nat.lt_or_ge i n with hi | hi
      · rw [List.getElem?_append_left (by rw [h.l2]; omega)] at hz
        exact .inl ⟨hi, hz⟩
      · rw [List.getElem?_append_right (by rw [h.l2]; omega), h.l2] at hz
        have hj0 : i - n = 0 := by
          have := (List.getElem?_eq_some_iff.1 hz).1
          simpa using this
        rw [hj0] at hz
        simp only [List.getElem?_cons_zero, Option.some.injEq] at hz
        exact .inr ⟨by omega, hz.symm⟩
    intro hg2
    rcases hcase j x hx with ⟨h1, h2⟩ | ⟨h1, h2⟩ <;> rcases hcase k y hy with ⟨k1, k2⟩ | ⟨k1, k2⟩
    · exact h.ne j k x y g hjk h2 k2 hg hg2
    · subst k2
      have := hw2 j x g h2 hg
      have := hnew g hg2
      omega
    · subst h2
      have := hw2 k y g k2 hg2
      have := hnew g hg
      omega
    · omega
end
end Go.Proofs.YtbamdibpkkponaaDoor

/- append of a slice of another type with the same elements. -/
namespace Go.Proofs.YtbamdibpkkponaaDoor
open Go.RowKit

theorem append_tt {P : Program} {t t' ty e e' : TypeId} (h : P.underlying t = some (.slice e)) (h' : P.underlying t' = some (.slice e')) (args : Array Value) (w : World) : (Builtin.append_ #[t, t'] ty args).run P w = (Builtin.append_ #[t, t] ty args).run P w := by
  unfold Builtin.append_
  rcases h0 : args[0]? with _ | s
  · rfl
  · rcases h1 : args[1]? with _ | x
    · rfl
    · cases s <;> simp [run_underlying h, run_underlying h']
theorem step_app2 {P : Program} {ops : Array Oper} {o : Oper} {a : Act} {w : World} {K : Act → World → Prop} {Q : Exit → Act → World → Prop} {E : Prop} (hgd : o.guard = none) (s x : Operand) (t t' : TypeId)
    (ho : o.op = .call { callee := .builtin .append, args := #[s, x], argTypes := #[t, t'] })
    {e e' : TypeId} {z : Value} {bytes : Nat} (hE : Ety P t e z bytes) (h' : P.underlying t' = some (.slice e')) (base : Nat) (v : Value) (n : Nat) (xs : List Value) (hs : a.eval s = v) (hown : w.ownsRow base e 1 v n xs)
    (B : Nat) (A : Option Addr) (m c : Nat) (news : List Value) (hx : a.eval x = .slice A m c) (hr : Sl w B A m news) (h1 : ∀ u ∈ news, u.oneCell' = true)
    (hbytes : (n + m) * bytes ≤ 140737488355328) (hbase : base ≤ w.heap.size)
    (h : ∀ A' c' w', w'.ownsRow base e 1 (.slice A' (n + m) c') (n + m) (xs ++ news) → w.grownBy w' v.ownBlock →
      ((Value.slice A' (n + m) c').ownBlock = v.ownBlock ∨ (Value.slice A' (n + m) c').ownBlock = some w.heap.size) → K (a.put o.dst (.slice A' (n + m) c')) w') :
    if Region.wanted o (yielded ops a.tmps) = true then Oper.wp P o a w K Q else E := by
  have hw : Region.wanted o (yielded ops a.tmps) = true := by simp [Region.wanted, hgd]
  rw [if_pos hw]
  obtain ⟨A', c', w', hrun, h2, h3, h4⟩ := run_app (P := P) w (ty := o.type) hE base v n xs hown B A m c news hr h1 hbytes hbase
  rw [← append_tt hE.under h'] at hrun
  unfold Oper.wp execOp
  simp only [ho, resolve, invoke, builtin, Sem.run_bind, Sem.run_pure, Result.andThen_ok, List.map_toArray, List.map_cons, List.map_nil, hs, hx, hrun]
  exact h A' c' w' h2 h3 h4
end Go.Proofs.YtbamdibpkkponaaDoor

/- What the reference reads of a summary's blocks, in plain lists. No program in sight. -/
namespace Go.Proofs.YtbamdibpkkponaaDoor
open Go.RowKit

/-- How many of n pairs of bytes begin ahead of the words' end. -/
def rCnt (n i : Nat) : Nat := min n ((89 - i) / 2)
def rF (W : List UInt8) (i : Nat) : FI := ⟨(nx 1 (W.drop i) : Nat), (nx 2 (W.drop (i + 1)) : Nat), pLs (rCnt (nx 1 (W.drop (i + 3))) (i + 4)) (W.drop (i + 4))⟩
def rN (W : List UInt8) (i : Nat) : Nat := i + 4 + 2 * rCnt (nx 1 (W.drop (i + 3))) (i + 4)
def rFs (W : List UInt8) : Nat → List FI × Nat
  | 0 => ([], 10)
  | k + 1 => if (rFs W k).2 < 88 then ((rFs W k).1 ++ [rF W (rFs W k).2], rN W (rFs W k).2) else rFs W k
theorem rFs_stop {W : List UInt8} {k : Nat} (h : ¬ (rFs W k).2 < 88) : ∀ m, k ≤ m → rFs W m = rFs W k := by
  intro m hm
  induction m with
  | zero => have : k = 0 := by omega
            rw [this]
  | succ m ih =>
    by_cases e : k = m + 1
    · rw [e]
    · have := ih (by omega)
      rw [rFs, this, if_neg h]
theorem rFs_len (W : List UInt8) : ∀ k, (rFs W k).1.length ≤ k ∧ (rFs W k).1.length ≤ 20 ∧ (rFs W k).2 ≤ 91 ∧ 10 + 4 * (rFs W k).1.length + 2 * lsN (rFs W k).1 ≤ (rFs W k).2 := by
  intro k
  induction k with
  | zero => simp [rFs, lsN, sumN]
  | succ k ih =>
    rw [rFs]
    by_cases h : (rFs W k).2 < 88
    · rw [if_pos h]
      have hr : rCnt (nx 1 (W.drop ((rFs W k).2 + 3))) ((rFs W k).2 + 4) ≤ (89 - ((rFs W k).2 + 4)) / 2 := Nat.min_le_right _ _
      simp only [List.length_append, List.length_cons, List.length_nil, lsN_app, rN]
      have e1 : lsN [rF W (rFs W k).2] = rCnt (nx 1 (W.drop ((rFs W k).2 + 3))) ((rFs W k).2 + 4) := by simp [lsN, sumN, rF, pLs_len]
      rw [e1]
      omega
    · rw [if_neg h]; omega
theorem rFs_bd (W : List UInt8) : ∀ k, ∀ f ∈ (rFs W k).1, ∀ x ∈ f.ls, -1000 ≤ x ∧ x < 65536
  | 0 => by simp [rFs]
  | k + 1 => by
    have h2 := rFs_bd W k
    rw [rFs]
    by_cases h : (rFs W k).2 < 88
    · rw [if_pos h]
      intro f hf x hx
      rcases List.mem_append.1 hf with h | h
      · exact h2 f h x hx
      · rw [List.mem_singleton] at h
        subst h
        simp only [rF, pLs, List.mem_map, List.mem_range] at hx
        obtain ⟨j, -, rfl⟩ := hx
        have := nx2_lt ((W.drop ((rFs W k).2 + 4)).drop (2 * j))
        omega
    · rw [if_neg h]; exact h2
def parseRW (e c : Int) (W : List UInt8) : PV × Nat :=
  let r := rFs W (nx 1 (W.drop 4))
  (⟨e, c, (nx 1 W : Nat), (nx 1 (W.drop 1) : Nat), (nx 2 (W.drop 2) : Nat), r.1, pIs (min (nx 1 (W.drop 5)) (88 - r.2)) (W.drop r.2)⟩, nx 4 (W.drop 6))
def parseR (b : List UInt8) : PV × Nat := parseRW (nx 2 b : Nat) (nx 2 (b.drop 2) : Nat) (unB b)
theorem rFs_flat (W : List UInt8) (fs : List FI) (r : List UInt8) (h : ∀ f ∈ fs, gdF f) (hW : W.drop 10 = fs.flatMap fileB ++ r) (hz : 10 + (4 * fs.length + 2 * lsN fs) ≤ 88) : ∀ j, j ≤ fs.length → rFs W j = (fs.take j, 10 + ((fs.take j).flatMap fileB).length)
  | 0, _ => by simp [rFs]
  | j + 1, hj => by
    have ih := rFs_flat W fs r h hW hz j (by omega)
    have hd : fs.drop j = fs[j]'(by omega) :: fs.drop (j + 1) := List.drop_eq_getElem_cons (by omega)
    have hall : fs.flatMap fileB = (fs.take j).flatMap fileB ++ (fs.drop j).flatMap fileB := by
      rw [← List.flatMap_append, List.take_append_drop]
    have hdr : W.drop (10 + ((fs.take j).flatMap fileB).length) = fileB (fs[j]'(by omega)) ++ ((fs.drop (j + 1)).flatMap fileB ++ r) := by
      rw [← List.drop_drop, hW, hall, List.append_assoc, List.drop_left, hd, List.flatMap_cons, List.append_assoc]
    have hg := h _ (List.getElem_mem (show j < fs.length by omega))
    obtain ⟨h1, h2⟩ := pF_fileB hg ((fs.drop (j + 1)).flatMap fileB ++ r)
    have hlen : ((fs.take j).flatMap fileB).length + (fileB (fs[j]'(by omega))).length ≤ 78 := by
      have e1 : (fs.flatMap fileB).length = 4 * fs.length + 2 * lsN fs := filesB_len fs
      rw [hall, List.length_append, hd, List.flatMap_cons, List.length_append] at e1
      omega
    have hfl := fileB_len (fs[j]'(by omega))
    obtain ⟨i, hi⟩ : ∃ i, i = 10 + ((fs.take j).flatMap fileB).length := ⟨_, rfl⟩
    rw [← hi] at hdr
    have hnn : nx 1 (W.drop (i + 3)) = (fs[j]'(by omega)).ls.length := by
      have : lenF (W.drop i) = (fileB (fs[j]'(by omega))).length := by rw [hdr]; exact h2
      unfold lenF at this
      rw [List.drop_drop, hfl] at this
      omega
    have hcnt : rCnt (nx 1 (W.drop (i + 3))) (i + 4) = nx 1 (W.drop (i + 3)) := by unfold rCnt; rw [hnn]; omega
    have hF : rF W i = fs[j]'(by omega) := by
      rw [← h1, ← hdr]
      unfold rF pF
      rw [hcnt]
      simp only [List.drop_drop]
    have hN : rN W i = i + (fileB (fs[j]'(by omega))).length := by unfold rN; rw [hcnt, hnn, hfl]; omega
    rw [rFs, ih]
    dsimp only
    rw [← hi, if_pos (by omega), hF, hN, hi, List.take_succ_eq_append_getElem (by omega), List.flatMap_append, List.length_append]
    simp [Nat.add_assoc]
theorem parseRW_words {v : PV} (h : v.ck = 0) {s : Nat} (hs : s < 4294967296) : parseRW v.e v.c (wordsB v.i v.p v.x v.fs v.is s) = (v, s) := by
  have hc := parseW_words h hs
  obtain ⟨⟨⟨h1, h2, h3, h4, h5⟩, hf, hi⟩, hz⟩ := PV.gd h
  obtain ⟨n1, n2⟩ := szN_fs hz
  have hd10 : (wordsB v.i v.p v.x v.fs v.is s).drop 10 = v.fs.flatMap fileB ++ (v.is.map b8 ++ List.replicate (88 - szN v.fs v.is) (0 : UInt8)) := by
    have : wordsB v.i v.p v.x v.fs v.is s = headB v.i v.p v.x v.fs.length v.is.length s ++ (v.fs.flatMap fileB ++ (v.is.map b8 ++ List.replicate (88 - szN v.fs v.is) (0 : UInt8))) := by simp [wordsB, bodyB]
    rw [this, drop_app _ _ 10 (headB_len _ _ _ _ _ _)]
  generalize hW : wordsB v.i v.p v.x v.fs v.is s = W at *
  have hfl := filesB_len v.fs
  have hr := rFs_flat W v.fs _ hf hd10 (by unfold szN at hz; omega) v.fs.length (Nat.le_refl _)
  rw [List.take_length] at hr
  unfold parseW at hc
  dsimp only at hc
  injection hc with hc hcs
  have g1 := congrArg PV.i hc
  have g2 := congrArg PV.p hc
  have g3 := congrArg PV.x hc
  have g4 := congrArg PV.fs hc
  have g5 := congrArg PV.is hc
  dsimp only at g1 g2 g3 g4 g5
  have m4 : nx 1 (W.drop 4) = v.fs.length := by
    have := congrArg List.length g4
    rw [pFs_len] at this
    omega
  have m5 : nx 1 (W.drop 5) = v.is.length := by
    have := congrArg List.length g5
    rw [pIs_len] at this
    omega
  have hlen : v.is.length ≤ 88 - (10 + (v.fs.flatMap fileB).length) := by unfold szN at hz; omega
  unfold parseRW
  dsimp only
  rw [m4, hr, m5, hcs, g1, g2, g3]
  dsimp only
  rw [Nat.min_eq_left hlen, ← List.drop_drop, hd10, List.drop_left, pIs_b8 _ _ (fun x hx => by have := hi x hx; omega)]
theorem parseR_enc {v : PV} (h : v.ck = 0) {s : Nat} (hs : s < 4294967296) : parseR (v.enc s) = (v, s) := by
  obtain ⟨⟨⟨h1, h2, h3, h4, h5⟩, hf, hi⟩, hz⟩ := PV.gd h
  have hw : (wordsB v.i v.p v.x v.fs v.is s).length = 88 := wordsB_len hz
  obtain ⟨a1, a2⟩ := encB_head hw h1 h2
  unfold parseR PV.enc
  rw [a1, a2, unB_encB hw, parseRW_words h hs]
theorem parse_okR (b : List UInt8) : ((parseR b).1.ck = 0 ∧ (parseR b).1.enc (parseR b).2 = b) ↔ ∃ v s, IsEnc b v s := by
  constructor
  · rintro ⟨h1, h2⟩
    exact ⟨_, _, h1, nx4_lt _, h2.symm⟩
  · rintro ⟨v, s, h1, hs, rfl⟩
    rw [parseR_enc h1 hs]
    exact ⟨h1, rfl⟩
end Go.Proofs.YtbamdibpkkponaaDoor

/- For summary.Decode: one read, its boxes. -/
namespace Go.Proofs.YtbamdibpkkponaaDoor
open Go.RowKit

theorem next_rd (k : Nat) (hk : k ≤ 4) (S g : Nat) (l : List UInt8) (w : World) (h : RdB S w g l) (hS : S ≤ g) :
    Calls Tryd.prog 30 #[.pointer (some ⟨g, 0, none⟩), .int .i64 (k : Int)] w fun e w' => e = .returned (.int .i64 (nx k l : Nat)) ∧ RdB S w' g (l.drop k) ∧ Kp [g] w w' := by
  obtain ⟨A, n, c, h1, h2, h3, h4⟩ := h
  refine (next_any k hk g n c A l 0 S w hS h1 h2 h3 h4).mono ?_
  rintro e w' ⟨rfl, A', n', c', k1, k2, k3, k4, k5⟩
  exact ⟨rfl, ⟨A', n', c', k1, k2, k3, k4⟩, k5⟩
/-- A boxed struct and two temporaries given back. -/
theorem results_ctt {P : Program} {fn : Func} {p q u : Tmp} {ty : TypeId} (h : fn.results = #[.cell p ty, .tmp q, .tmp u]) (tmps : Array Value) (w : World) (g : Nat) (t : TypeId) (cs : Array Value) (fr : Nat × Nat) (d : TypeDesc)
    (hp : tmps.getD p undef = .pointer (some ⟨g, 0, none⟩)) (hg : w.heap[g]? = some (.cells cs t fr))
    (hu : P.underlying ty = some d) (hd : (match d with | .struct _ | .array _ _ => true | _ => false) = true) (hi : (P.info? ty).map (·.size) = some cs.size) :
    (results fn tmps).run P w = .ok (.tuple #[.agg cs, tmps.getD q undef, tmps.getD u undef]) w := by
  have hp' : tmps[p]?.getD undef = .pointer (some ⟨g, 0, none⟩) := by simpa using hp
  simp [results, h, hp', asAddr, run_loadVar_row w g t ty cs fr d hg hu hd hi]
theorem part_set7 {w : World} {g : Nat} {t : TypeId} {o0 o1 o2 o3 o4 o5 o6 : Value} (h : Blk w g t #[o0, o1, o2, o3, o4, o5, o6]) (v0 v1 v2 v3 v4 v5 v6 : Value) :
    Blk (((((((w.setCell ⟨g, 0, none⟩ v0).setCell ⟨g, 1, none⟩ v1).setCell ⟨g, 2, none⟩ v2).setCell ⟨g, 3, none⟩ v3).setCell ⟨g, 4, none⟩ v4).setCell ⟨g, 5, none⟩ v5).setCell ⟨g, 6, none⟩ v6) g t #[v0, v1, v2, v3, v4, v5, v6] ∧
    Kp [g] w (((((((w.setCell ⟨g, 0, none⟩ v0).setCell ⟨g, 1, none⟩ v1).setCell ⟨g, 2, none⟩ v2).setCell ⟨g, 3, none⟩ v3).setCell ⟨g, 4, none⟩ v4).setCell ⟨g, 5, none⟩ v5).setCell ⟨g, 6, none⟩ v6) := by
  constructor
  · have KF := (((((((h.set 0 v0).set 1 v1).set 2 v2).set 3 v3).set 4 v4).set 5 v5).set 6 v6)
    simpa [List.setIfInBounds_toArray] using KF
  · exact ((((((((Kp.refl [g] w).set (p := ⟨g, 0, none⟩) (.inl (by simp)) v0).set (p := ⟨g, 1, none⟩) (.inl (by simp)) v1).set (p := ⟨g, 2, none⟩) (.inl (by simp)) v2).set (p := ⟨g, 3, none⟩) (.inl (by simp)) v3).set (p := ⟨g, 4, none⟩) (.inl (by simp)) v4).set (p := ⟨g, 5, none⟩) (.inl (by simp)) v5).set (p := ⟨g, 6, none⟩) (.inl (by simp)) v6)
theorem bel_drewN {B : Nat} {w w' : World} (h : Below B w w') (k : Nat) : Below B w (w'.drewN k) := ⟨h.os, h.tape, h.output, h.size, h.block⟩
theorem Kp.mono_ {gs gs' : List Nat} {w w' : World} (h : Kp gs w w') (hg : ∀ g ∈ gs, g ∈ gs') : Kp gs' w w' := ⟨h.os, h.tape, h.output, h.size, fun i hi hn => h.block i hi (fun hm => hn (hg i hm))⟩
theorem Kp.gr8 {gs : List Nat} {a w w' : World} (h : Kp gs a w) {r : Option Nat} (hg : w.grownBy w' r) (hr : ∀ g, r = some g → a.heap.size ≤ g) : Kp gs a w' :=
  ⟨hg.os.trans h.os, hg.tape.trans h.tape, hg.output.trans h.output, Nat.le_trans h.size hg.size, fun i hi hn => (hg.block i (Nat.lt_of_lt_of_le hi h.size) (fun e => by have := hr i e.symm; omega)).trans (h.block i hi hn)⟩
theorem nx_take {k n : Nat} (h : k ≤ n) (l : List UInt8) : nx k (l.take n) = nx k l := by
  unfold nx
  rw [List.take_take, Nat.min_eq_left h]
theorem nx_take2 (l : List UInt8) : nx 2 ((l.take 4).drop 2) = nx 2 (l.drop 2) := by
  rw [List.drop_take]
  exact nx_take (by decide) _
theorem parseC_len {l : List UInt8} {v : PV} {s : Nat} (h : IsEnc l v s) : l.length = 128 := by rw [h.2.2]; exact PV.enc_len h.1 s
theorem etyJ1 (w : World) (x : Int) : Sl (w.alloc (.cells #[.int .i64 x] 3)) (w.heap.size + 1) (some ⟨w.heap.size, 0, none⟩) 1 (intC [x]) := by
  refine ⟨rfl, fun i u hu => ⟨_, rfl, by simp, ?_⟩⟩
  rw [Addr.add_mid, Nat.zero_add, (Blk.new w _ _).cell]
  simpa [intC] using hu
end Go.Proofs.YtbamdibpkkponaaDoor

/- slices.Chunk of bytes: the iterator's contract. -/
namespace Go.Proofs.YtbamdibpkkponaaDoor
open Go.RowKit Go.Shelf
attribute [local go_sem] Oper.semAt_some
/-- Go's min, kept whole in a walk. -/
def minK_KpS_refl (ts : Array TypeId) (t : TypeId) (vs : Array Value) : Sem Value := Builtin.min_ ts t vs
theorem minK_KpS_refl_keep (ts : Array TypeId) (t : TypeId) (vs : Array Value) : Builtin.min_ ts t vs = minK_KpS_refl ts t vs := rfl
attribute [local go_sem ↓] minK_KpS_refl_keep

/-- These blocks stay. -/
def KpS (gs : List Nat) (A B : World) : Prop := ∀ g ∈ gs, B.heap[g]? = A.heap[g]?
theorem KpS.refl (gs : List Nat) (A : World) : KpS gs A A := fun _ _ => rfl
theorem KpS.trans {gs : List Nat} {A B C : World} (h : KpS gs A B) (k : KpS gs B C) : KpS gs A C := fun g hg => (k g hg).trans (h g hg)
theorem KpS.put {gs : List Nat} {w : World} (hlt : ∀ g ∈ gs, g < w.heap.size) (W : World) (l : Nat) (o o' : Obj) (hl : w.heap.size ≤ l) (h : W.heap[l]? = some o) (_ : o.isCells = false) (_ : o.isWalk = false) : KpS gs W (W.putObj l o') := fun g hg => by
  have h1 := hlt g hg
  have h2 := (Array.getElem?_eq_some_iff.1 h).1
  exact (grownBy_putObj' W l o').block g (by omega) (fun e => by cases e; omega)
theorem KpS.cell {gs : List Nat} {A B : World} (h : KpS gs A B) {g : Nat} (hg : g ∈ gs) (i : Nat) : B.cell? ⟨g, i, none⟩ = A.cell? ⟨g, i, none⟩ := World.cell?_of_block (h g hg)

theorem run_cut_lhm {P : Program} {t e : TypeId} {z : Value} {bytes : Nat} (hE : Ety P t e z bytes) (ad : Addr) (n c : Nat) (w : World) (k h m : Nat) (k1 k2 k3 : IntKind) (hk : k ≤ h) (hh : h ≤ m) (hm : m ≤ c) (hlt : k < m) :
    (Instr.slice t (.slice (some ad) n c) (some (.int k1 (k : Int))) (some (.int k2 (h : Int))) (some (.int k3 (m : Int)))).run P w = .ok (.slice (some (ad.add k)) (h - k) (m - k)) w := by
  obtain ⟨i, hi, hz, hs, hb⟩ := hE.info
  have hkm : ¬ m = k := by omega
  have hkm' : ¬ m ≤ k := by omega
  simp [Instr.slice, run_underlying hE.under, sizeOf, typeInfo, hi, hs, Instr.sliceBounds, Instr.sliceBound, asIntOf, hk, hh, hm, hkm]
set_option maxRecDepth 100000 in
set_option maxHeartbeats 2000000 in
theorem chunk1_in (n : Nat) (hn : 1 ≤ n) (l Bs Bp b K p c : Nat) (hp : 1 ≤ p ∧ p ≤ 1000) (_hK : K ≤ 1000) (hc : p * K ≤ c) (hc2 : c ≤ 9223372036854775807) (J Jx : List (Fin K) → World → Prop)
    (hY : ∀ (pre : List (Fin K)) (x : Fin K) (W : World), J pre W → pre.length < K → YieldAt Fence.wide (n - 1) Tryd.prog l #[.slice (some ⟨b, p * x.1, none⟩) p p] W fun e W' =>
      (e = .returned (.bool true) ∧ J (pre ++ [x]) W' ∧ KpS [Bs, Bp] W W') ∨ (e = .returned (.bool false) ∧ Jx (pre ++ [x]) W'))
    (hJd : ∀ (pre : List (Fin K)) (W : World), J pre W → J pre W.drew) (W : World) (hs : W.cell? ⟨Bs, 0, none⟩ = some (.slice (some ⟨b, 0, none⟩) (p * K) c)) (hz : W.cell? ⟨Bp, 0, none⟩ = some (.int .i64 (p : Int))) (h0 : J [] W) :
    CallsIn Fence.wide n Tryd.prog 36 #[.func (.yield l) #[] #[], .pointer (some ⟨Bs, 0, none⟩), .pointer (some ⟨Bp, 0, none⟩)] W fun e W' => (∃ v, e = .returned v) ∧
      ((∃ ys : List (Fin K), ys.map (·.1) = List.range K ∧ J ys W') ∨ (∃ pre : List (Fin K), (∃ k, k ≤ K ∧ pre.map (·.1) = List.range k) ∧ Jx pre W')) := by
  obtain ⟨N, hN⟩ : ∃ N, N = p * K := ⟨_, rfl⟩
  rw [← hN] at hc hs
  have HY := hide hY
  clear hY
  refine callsIn_of_wp Tryd.func36 rfl trivial ?_ rfl
  simp only [Tryd.ntmps36, List.size_toArray, List.length_cons, List.length_nil, Nat.reduceAdd, Nat.reduceSub, Array.replicate_succ, Array.replicate_zero, List.push_toArray, List.append_toArray, List.nil_append, List.cons_append]
  gi_wp2
  gi_loopw [4] (fun i wr => ∃ (k : Nat) (pre : List (Fin K)), k ≤ K ∧ i = .int .i64 ((p * k : Nat) : Int) ∧ pre.map (·.1) = List.range k ∧ J pre wr ∧ KpS [Bs, Bp] W wr)
    (fun i _ => N - (intOf i).toNat)
  case atStart => exact ⟨0, [], Nat.zero_le _, by simp, rfl, h0, KpS.refl _ _⟩
  case round =>
    obtain ⟨k, pre, hk, rfl, hpre, hJ, hkp⟩ := hrel
    have e1 := (hkp.cell (g := Bs) (by simp) 0).trans hs
    have e2 := (hkp.cell (g := Bp) (by simp) 0).trans hz
    by_cases hlt : k < K
    · have hlen : pre.length = k := by have := congrArg List.length hpre; simpa using this
      obtain ⟨fn, tmps, assign, body, hy, hR⟩ := HY.out pre ⟨k, hlt⟩ wr.drew (hJd _ _ hJ) (by omega)
      obtain ⟨m, hm⟩ : ∃ m, m = p * k := ⟨_, rfl⟩
      have hmN : m + p ≤ N := by rw [hm, hN, ← Nat.mul_succ]; exact Nat.mul_le_mul_left p hlt
      have hmlt : (m : Int) < (N : Int) := by omega
      have hmle : (m : Int) ≤ (N : Int) := by omega
      have hsl : ∀ w, (Instr.slice 30 (.slice (some ⟨b, 0, none⟩) N c) (some (.int .i64 (m : Int))) none none).run Tryd.prog w = .ok (.slice (cutA (some ⟨b, 0, none⟩) c m) (N - m) (c - m)) w := fun w => run_cut_l etyB _ N c w m .i64 (by omega)
      have hsm : ∀ w, (Instr.slice 30 (.slice (some ⟨b, 0, none⟩) N c) (some (.int .i64 (m : Int))) (some (.int .i64 ((m + p : Nat) : Int))) (some (.int .i64 ((m + p : Nat) : Int)))).run Tryd.prog w = .ok (.slice (some ⟨b, m, none⟩) p p) w := fun w => by
        have := run_cut_lhm etyB ⟨b, 0, none⟩ N c w m (m + p) (m + p) .i64 .i64 .i64 (by omega) (Nat.le_refl _) (by omega) (by omega)
        rw [Addr.add_lit, Nat.zero_add, Nat.add_sub_cancel_left] at this
        exact this
      have hmin : ∀ (ts : Array TypeId) (t : TypeId) (w : World), (minK_KpS_refl ts t #[.int .i64 (p : Int), .int .i64 ((N - m : Nat) : Int)]).run Tryd.prog w = .ok (.int .i64 (p : Int)) w := fun ts t w => by
        rw [← minK_KpS_refl_keep, run_min_int2]
        split <;> first | rfl | (congr 2; omega)
      have hwm : IntKind.i64.wrap ((m : Int) + (p : Int)) = ((m + p : Nat) : Int) := by rw [IntKind.wrap_i64]; omega
      dsimp only at hy
      rw [← hm] at hy ⊢
      have hm' := hide hm
      have hN' := hide hN
      clear hm hN
      gi_wp2
      refine wpIn_wide.2 ?_
      refine wp_region_noPanic ?_
      refine wp_region_held_drew (S := (fun w' => w'.cell? ⟨Bs, 0, none⟩ = some (.slice (some ⟨b, 0, none⟩) N c) ∧ w'.cell? ⟨Bp, 0, none⟩ = some (.int .i64 (p : Int)))) (by kernel_rfl) ?_ (fun hHeld => ?_)
      · ((try dsimp only) <;> (first | trivial | assumption | go_keep))
      refine wpAnyH_take (i := 0) (v := ?_) (by simp only [List.getElem?_toArray, List.getElem?_cons_zero]; rfl) (by kernel_rfl) (by kernel_rfl) (by kernel_rfl) (fun _ _ _ h => h) (Or.inl ⟨by rfl, ?_⟩) (by assumption) ?_
      rotate_left 1
      · (intro w hSw; (try dsimp only at hSw); go_simp; try with_reducible rfl)
      try simp only [Act.put, List.setIfInBounds_toArray, List.set_cons_zero, List.set_cons_succ]
      refine wpAnyH_take (i := 1) (v := ?_) (by simp only [List.getElem?_toArray, List.getElem?_cons_succ, List.getElem?_cons_zero]; rfl) (by kernel_rfl) (by kernel_rfl) (by kernel_rfl) (fun _ _ _ h => h) (Or.inl ⟨by rfl, ?_⟩) (by assumption) ?_
      rotate_left 1
      · (intro w hSw; (try dsimp only at hSw); go_simp; try with_reducible rfl)
      try simp only [Act.put, List.setIfInBounds_toArray, List.set_cons_zero, List.set_cons_succ]
      refine wpAnyH_take (i := 2) (v := ?_) (by simp only [List.getElem?_toArray, List.getElem?_cons_succ, List.getElem?_cons_zero]; rfl) (by kernel_rfl) (by kernel_rfl) (by kernel_rfl) (fun _ _ _ h => h) (Or.inl ⟨by rfl, ?_⟩) (by assumption) ?_
      rotate_left 1
      · (intro w hSw; (try dsimp only at hSw); go_simp; try with_reducible rfl)
      try simp only [Act.put, List.setIfInBounds_toArray, List.set_cons_zero, List.set_cons_succ]
      refine wpAnyH_take (i := 3) (v := ?_) (by simp only [List.getElem?_toArray, List.getElem?_cons_succ, List.getElem?_cons_zero]; rfl) (by kernel_rfl) (by kernel_rfl) (by kernel_rfl) (fun _ _ _ h => h) (Or.inl ⟨by rfl, ?_⟩) (by assumption) ?_
      rotate_left 1
      · (intro w hSw; (try dsimp only at hSw); go_simp; try with_reducible rfl)
      try simp only [Act.put, List.setIfInBounds_toArray, List.set_cons_zero, List.set_cons_succ]
      refine wpAnyH_take (i := 4) (v := ?_) (by simp only [List.getElem?_toArray, List.getElem?_cons_succ, List.getElem?_cons_zero]; rfl) (by kernel_rfl) (by kernel_rfl) (by kernel_rfl) (fun _ _ _ h => h) (Or.inl ⟨by rfl, ?_⟩) (by assumption) ?_
      rotate_left 1
      · (intro w hSw; (try dsimp only at hSw); go_simp; try with_reducible rfl)
      try simp only [Act.put, List.setIfInBounds_toArray, List.set_cons_zero, List.set_cons_succ]
      refine wpAnyH_ready (rs := [5]) (by kernel_rfl) (by simp) ?_
      refine AllReadyH.cons (by simp only [List.getElem?_toArray, List.getElem?_cons_succ, List.getElem?_cons_zero]; rfl) (fun K hK => ?_) ?_
      rotate_left 1
      · exact AllReadyH.nil
      go_simp
      refine hK.out _ _ ?_ (fun hHeld2 => ?_)
      · ((try dsimp only) <;> (first | trivial | assumption | go_keep))
      clear hHeld
      have hHeld := hHeld2
      clear hHeld2 hK K
      try simp only [Act.put, List.setIfInBounds_toArray, List.set_cons_zero, List.set_cons_succ]
      refine wpAnyH_take (i := 6) (v := ?_) (by simp only [List.getElem?_toArray, List.getElem?_cons_succ, List.getElem?_cons_zero]; rfl) (by kernel_rfl) (by kernel_rfl) (by kernel_rfl) (fun _ _ _ h => h) (Or.inl ⟨by rfl, ?_⟩) (by assumption) ?_
      rotate_left 1
      · (intro w hSw; (try dsimp only at hSw); go_simp; try with_reducible rfl)
      try simp only [Act.put, List.setIfInBounds_toArray, List.set_cons_zero, List.set_cons_succ]
      refine wpAnyH_done (by kernel_rfl) ?_ _
      refine NoPanic.normal ?_
      have hMW := hide (show m = p * k ∧ N = p * K from ⟨hm'.out, hN'.out⟩)
      have hkd : KpS [Bs, Bp] W wr.drew := fun g hg => hkp g hg
      have e1d : wr.drew.cell? ⟨Bs, 0, none⟩ = some (.slice (some ⟨b, 0, none⟩) N c) := e1
      generalize wr.drew = w2 at *
      clear hHeld e1 e2 hm' hN' hkp hJ
      gi_wp2
      refine hR.mono ?_
      rintro e W3 (⟨rfl, hJ3, hk3⟩ | ⟨rfl, hJx3⟩)
      · have hk4 := hkd.trans hk3
        have e2' := (hk4.cell (g := Bp) (by simp) 0).trans hz
        clear hk3 hsl hsm hmin
        gi_wp2
        go_roundw
        case rel => exact ⟨k + 1, pre ++ [⟨k, hlt⟩], by omega, by rw [Nat.mul_succ, ← hMW.out.1, Int.natCast_add], by rw [List.map_append, hpre, List.range_succ]; rfl, hJ3, hk4⟩
        case measure => simp [intOf]; omega
      · clear hsl hsm hmin
        gi_wp2
        refine bodyPost_ret (results_none rfl _ _ _) rfl ?_
        exact ⟨⟨_, rfl⟩, .inr ⟨pre ++ [⟨k, hlt⟩], ⟨k + 1, by omega, by rw [List.map_append, hpre, List.range_succ]; rfl⟩, hJx3⟩⟩
    · have hkK : k = K := by omega
      have hend : ¬ (((p * k : Nat) : Int) < (N : Int)) := by rw [hkK, hN]; omega
      have HPRE := hide (show pre.map (·.1) = List.range K by rw [hpre, hkK])
      clear hkK hpre
      generalize p * k = m at *
      gi_wp2
      go_end0
      exact ⟨⟨_, rfl⟩, .inl ⟨pre, HPRE.out, hJ⟩⟩
set_option maxHeartbeats 1000000 in
/-- The iterator's maker. -/
theorem chunk_any (A : Option Addr) (n c : Nat) (p : Nat) (hp : 1 ≤ p) (w : World) : Calls Tryd.prog 25 #[.slice A n c, .int .i64 (p : Int)] w fun e w' => e = .returned (.func (.func 36) #[] #[.pointer (some ⟨w.heap.size, 0, none⟩), .pointer (some ⟨w.heap.size + 1, 0, none⟩)]) ∧ w' = (w.alloc (.cells #[.slice A n c] 30)).alloc (.cells #[.int .i64 (p : Int)] 3) := by
  have hp' : ¬ (p : Int) < 1 := by omega
  go_enter Tryd.func25, Tryd.ntmps25
  go_wp2_with fail
  go_ret
  exact ⟨rfl, rfl⟩
/-- It hands out K pieces of p bytes each. -/
theorem chunk_stops (n : Nat) (hn : 1 ≤ n) (Bs Bp b K p c : Nat) (hp : 1 ≤ p ∧ p ≤ 1000) (hK : K ≤ 1000) (hc : p * K ≤ c) (hc2 : c ≤ 9223372036854775807) (w : World) (hBs : Bs < w.heap.size) (hBp : Bp < w.heap.size)
    (hs : w.cell? ⟨Bs, 0, none⟩ = some (.slice (some ⟨b, 0, none⟩) (p * K) c)) (hz : w.cell? ⟨Bp, 0, none⟩ = some (.int .i64 (p : Int))) :
    SeqStopsK Fence.wide n Tryd.prog 36 #[.pointer (some ⟨Bs, 0, none⟩), .pointer (some ⟨Bp, 0, none⟩)] (fun x : Fin K => #[.slice (some ⟨b, p * x.1, none⟩) p p]) (KpS [Bs, Bp])
      (fun ys => ys.map (·.1) = List.range K) (fun pre => ∃ k, k ≤ K ∧ pre.map (·.1) = List.range k) K w := fun l J Jx W hW hJ hJx hY h0 => by
  have h1 := (hW.cell (p := ⟨Bs, 0, none⟩) hBs).trans hs
  have h2 := (hW.cell (p := ⟨Bp, 0, none⟩) hBp).trans hz
  exact chunk1_in n hn l Bs Bp b K p c hp hK hc hc2 J Jx hY (fun pre W1 h => hJ pre W1 W1.drew none h ⟨rfl, rfl, rfl, Nat.le_refl _, fun _ _ _ => rfl⟩ (by simp)) W h1 h2 h0
end Go.Proofs.YtbamdibpkkponaaDoor

/- A region whose last operation waits for all others: what the region holds to need not hold behind that last one. No program in sight. -/
namespace Go.Proofs.YtbamdibpkkponaaDoor

/-- The post of the region without its last operation. -/
def LastQ (P : Program) (ops : Array Oper) (Q : Exit → Act → World → Prop) (z : Nat) : Exit → Act → World → Prop
  | .normal, a, w => wpOp P ops Q z (fun a' w' => Q .normal a' w') a w
  | e, a, w => Q e a w
section
variable {P : Program} {ops : Array Oper} {Q : Exit → Act → World → Prop} {md : Region.Mode} {z : Nat}
theorem upon_imp {o : Oper} {a : Act} {K K' : Act → World → Prop} {Q' : Exit → Act → World → Prop} (hK : ∀ a w, K a w → K' a w) (hp : ∀ c a w, Q' (.panic c) a w → Q (.panic c) a w) (ho : LetsOut Q' → LetsOut Q) :
    ∀ r, o.upon P a K Q' r → o.upon P a K' Q r := by
  intro r h
  unfold Oper.upon at *
  split at h
  · exact hK _ _ h
  · exact hK _ _ h
  · exact hK _ _ h
  · refine Calls.mono h fun e w' he => ?_
    cases e with
    | returned v => exact hK _ _ he
    | panicked c => exact hp _ _ _ he
    | outgrown => exact ho he
  · exact Rows.mono h fun u w' he => hK _ _ he
  · exact hp _ _ _ h
  · exact h
theorem wpOp_imp {i : Nat} {a : Act} {w : World} {K K' : Act → World → Prop} {Q' : Exit → Act → World → Prop} (hK : ∀ a w, K a w → K' a w) (hp : ∀ c a w, Q' (.panic c) a w → Q (.panic c) a w) (ho : LetsOut Q' → LetsOut Q)
    (h : wpOp P ops Q' i K a w) : wpOp P ops Q i K' a w := by
  unfold wpOp at *
  split
  · rename_i hn
    simp only [hn] at h
    exact hK _ _ h
  · rename_i o hn
    simp only [hn] at h
    split
    · rename_i hw
      rw [if_pos hw] at h
      rcases h with h | ⟨h1, h2⟩
      · exact .inl (upon_imp hK hp ho _ h)
      · exact .inr ⟨h1, ho h2⟩
    · rename_i hw
      rw [if_neg hw] at h
      exact hK _ _ h
/-- The check: each edge leads back, none to z, and for each other one somebody waits. -/
def lastOk (ops : Array Oper) (md : Region.Mode) (z : Nat) : Bool :=
  decide (z + 1 = ops.size) && (List.range ops.size).all (fun i => match ops[i]? with
    | none => true
    | some o => o.after.all (fun e => !Region.binds md e || (decide (e.on < i) && decide (e.on ≠ z)))) &&
  (List.range z).all fun j => (List.range ops.size).any fun i => match ops[i]? with
    | none => false
    | some o => o.after.any fun e => Region.binds md e && decide (e.on = j)
theorem lastOk_spec (h : lastOk ops md z = true) : z + 1 = ops.size ∧ (∀ i o, ops[i]? = some o → ∀ e ∈ o.after, Region.binds md e = true → e.on < i ∧ e.on ≠ z) ∧ ∀ j, j < z → ∃ (i : Nat) (o : Oper), ops[i]? = some o ∧ ∃ e ∈ o.after, Region.binds md e = true ∧ e.on = j := by
  unfold lastOk at h
  rw [Bool.and_eq_true, Bool.and_eq_true] at h
  obtain ⟨⟨h1, h2⟩, h3⟩ := h
  have h1 := of_decide_eq_true h1
  refine ⟨h1, fun i o ho e he hb => ?_, fun j hj => ?_⟩
  · have h4 := List.all_eq_true.1 h2 i (List.mem_range.2 (Array.getElem?_eq_some_iff.1 ho).1)
    rw [ho] at h4
    have h5 := Array.all_eq_true'.1 h4 e he
    rw [hb] at h5
    simp only [Bool.not_true, Bool.false_or, Bool.and_eq_true] at h5
    exact ⟨of_decide_eq_true h5.1, of_decide_eq_true h5.2⟩
  · obtain ⟨i, hi, h4⟩ := List.any_eq_true.1 (List.all_eq_true.1 h3 j (List.mem_range.2 hj))
    rcases ho : ops[i]? with _ | o
    · rw [ho] at h4; cases h4
    · rw [ho] at h4
      obtain ⟨e, he, h6⟩ := Array.any_eq_true'.1 h4
      rw [Bool.and_eq_true] at h6
      exact ⟨i, o, ho, e, he, h6.1, of_decide_eq_true h6.2⟩
/-- What is listed, its edges are. -/
def Shut2 (ops : Array Oper) (md : Region.Mode) (z : Nat) (listed : Array Bool) : Prop := ∀ i o, i ≠ z → ops[i]? = some o → listed.getD i false = true → ∀ e ∈ o.after, Region.binds md e = true → listed.getD e.on false = true
theorem Shut2.add {listed : Array Bool} (h : Shut2 ops md z listed) {i : Nat} (hi : i ∈ Region.ready md ops listed) : Shut2 ops md z (listed.setIfInBounds i true) := by
  intro j o hj ho hl e he hb
  refine getD_set_true ?_
  by_cases hij : i = j
  · subst hij
    obtain ⟨-, o', ho', h'⟩ := mem_ready.1 hi
    rw [ho] at ho'
    injection ho' with ho'
    subst ho'
    exact h' e he hb
  · rw [getD_set_ne false hij] at hl
    exact h j o hj ho hl e he hb
theorem wpAny_last (hok : lastOk ops md z = true) : ∀ (fuel : Nat) (listed : Array Bool) (a : Act) (w : World), listed.size = ops.size → listed.getD z true = false → Shut2 ops md z listed →
    wpAny P md ops (LastQ P ops Q z) fuel (listed.setIfInBounds z true) a w → wpAny P md ops Q (fuel + 1) listed a w := by
  obtain ⟨hz, hback, hwait⟩ := lastOk_spec hok
  have hzlt : z < ops.size := by omega
  obtain ⟨oz, hoz⟩ : ∃ o, ops[z]? = some o := ⟨_, Array.getElem?_eq_getElem hzlt⟩
  -- what is ready while z is not listed, and what is where it is held for listed
  have hsame : ∀ (listed : Array Bool) (j : Nat), j ≠ z → (j ∈ Region.ready md ops listed ↔ j ∈ Region.ready md ops (listed.setIfInBounds z true)) := fun listed j hj => by
    rw [mem_ready, mem_ready, getD_set_ne true (Ne.symm hj)]
    refine and_congr_right fun _ => ⟨fun ⟨o, ho, h⟩ => ⟨o, ho, fun e he hb => ?_⟩, fun ⟨o, ho, h⟩ => ⟨o, ho, fun e he hb => ?_⟩⟩
    · exact getD_set_true (h e he hb)
    · have := h e he hb
      rwa [getD_set_ne false (Ne.symm (hback j o ho e he hb).2)] at this
  have hall : ∀ (listed : Array Bool), listed.size = ops.size → Region.ready md ops (listed.setIfInBounds z true) = [] → ∀ j, j < z → listed.getD j false = true := fun listed hs hr j => by
    induction j using Nat.strongRecOn with
    | _ j ih =>
      intro hj
      rcases hb : listed.getD j true with _ | _
      · exfalso
        have hjo : j < ops.size := by omega
        have : j ∈ Region.ready md ops (listed.setIfInBounds z true) := (hsame listed j (by omega)).1 (mem_ready.2 ⟨hb, _, Array.getElem?_eq_getElem hjo, fun e he hbd => by
          obtain ⟨h1, h2⟩ := hback j _ (Array.getElem?_eq_getElem hjo) e he hbd
          exact ih e.on h1 (by omega)⟩)
        rw [hr] at this
        cases this
      · have hjl : j < listed.size := by omega
        simpa [hjl] using hb
  have hzr : ∀ (listed : Array Bool), Shut2 ops md z listed → z ∈ Region.ready md ops listed → ∀ j, j < z → listed.getD j false = true := fun listed hcl hr => by
    obtain ⟨-, o, ho, h⟩ := mem_ready.1 hr
    have main : ∀ d j, z - j = d → j < z → listed.getD j false = true := fun d => by
      induction d using Nat.strongRecOn with
      | _ d ih =>
        intro j hd hj
        obtain ⟨i, oi, hoi, e, he, hb, rfl⟩ := hwait j hj
        have h1 := (hback i oi hoi e he hb).1
        have hil := (Array.getElem?_eq_some_iff.1 hoi).1
        by_cases hiz : i = z
        · subst hiz
          rw [ho] at hoi
          injection hoi with hoi
          subst hoi
          exact h e he hb
        · exact hcl i oi hiz hoi (ih (z - i) (by omega) i rfl (by omega)) e he hb
    exact fun j hj => main (z - j) j rfl hj
  have fin : ∀ (fuel : Nat) (listed : Array Bool) (a : Act) (w : World), listed.size = ops.size → listed.getD z true = false → (∀ j, j < z → listed.getD j false = true) → LastQ P ops Q z .normal a w → wpAny P md ops Q (fuel + 1) listed a w := fun fuel listed a w hs hl hA h => by
    have hnone : ∀ j, j ∈ Region.ready md ops listed → j = z := fun j hj => by
      obtain ⟨h0, o, ho, -⟩ := mem_ready.1 hj
      have hjl := (Array.getElem?_eq_some_iff.1 ho).1
      rcases Nat.lt_trichotomy j z with h1 | h1 | h1
      · have := hA j h1
        have hjs : j < listed.size := by omega
        simp [hjs] at h0 this
        rw [h0] at this; cases this
      · exact h1
      · omega
    have hzm : z ∈ Region.ready md ops listed := mem_ready.2 ⟨hl, oz, hoz, fun e he hb => by
      obtain ⟨h1, h2⟩ := hback z oz hoz e he hb
      exact hA e.on h1⟩
    refine ⟨fun h0 => (by rw [h0] at hzm; cases hzm), fun i hi => ?_⟩
    have := hnone i hi
    subst this
    refine wpOp_mono (fun a' w' hq => ?_) h
    have hr : Region.ready md ops (listed.setIfInBounds i true) = [] := by
      rw [List.eq_nil_iff_forall_not_mem]
      intro j hj
      obtain ⟨h0, o, ho, -⟩ := mem_ready.1 hj
      have hjl := (Array.getElem?_eq_some_iff.1 ho).1
      have hil : i < listed.size := by omega
      by_cases e : j = i
      · subst e
        simp [hil] at h0
      · rw [getD_set_ne true (Ne.symm e)] at h0
        have hji : j < i := by omega
        have := hA j hji
        have hjs : j < listed.size := by omega
        simp [hjs] at h0 this
        rw [h0] at this; cases this
    cases fuel with
    | zero => exact ⟨hr, hq⟩
    | succ n => exact ⟨fun _ => hq, fun k hk => by rw [hr] at hk; cases hk⟩
  intro fuel
  induction fuel with
  | zero =>
    intro listed a w hs hl hcl h
    exact fin 0 listed a w hs hl (hall listed hs h.1) h.2
  | succ fuel ih =>
    intro listed a w hs hl hcl h
    by_cases hr : Region.ready md ops (listed.setIfInBounds z true) = []
    · exact fin (fuel + 1) listed a w hs hl (hall listed hs hr) (h.1 hr)
    · obtain ⟨j0, hj0⟩ := List.exists_mem_of_ne_nil _ hr
      have hj0z : j0 ≠ z := by
        rintro rfl
        obtain ⟨h0, -⟩ := mem_ready.1 hj0
        have hil : j0 < listed.size := by omega
        simp [hil] at h0
      refine ⟨fun h0 => ?_, fun i hi => ?_⟩
      · have := (hsame listed j0 hj0z).2 hj0
        rw [h0] at this; cases this
      · by_cases hiz : i = z
        · exfalso
          subst hiz
          obtain ⟨h0, o, ho, -⟩ := mem_ready.1 hj0
          rw [getD_set_ne true (Ne.symm hj0z)] at h0
          have hjl := (Array.getElem?_eq_some_iff.1 ho).1
          have hA := hzr listed hcl hi j0 (by omega)
          have hjs : j0 < listed.size := by omega
          simp [hjs] at h0 hA
          rw [h0] at hA; cases hA
        · have h1 := h.2 i ((hsame listed i hiz).1 hi)
          refine wpOp_imp (fun a' w' hk => ?_) (fun _ _ _ hp => hp) (fun hp => hp) h1
          rw [Array.setIfInBounds_comm _ _ (Ne.symm hiz)] at hk
          exact ih (listed.setIfInBounds i true) a' w' (by simpa using hs) (by rw [getD_set_ne true hiz]; exact hl) (hcl.add hi) hk
/-- The beginning of a region whose last operation stands apart. -/
theorem wp_region_last {S : World → Prop} {id : Nat} {a : Act} {w : World} {n : Nat} (hm : P.follows .mixedOrders = true) (hn : ops.size = n + 1) (hok : lastOk ops .any n = true) (hS : S w.drew)
    (h : S w.drew → wpAnyH P .any ops (LastQ P ops Q n) S n ((Array.replicate ops.size false).setIfInBounds n true) a w.drew) : (Code.region id ops true).wp P Q a w := by
  refine wp_region_any hm ?_
  rw [hn]
  exact wpAny_last hok n _ a _ (by simp [hn]) (by simp) (fun i o _ _ hl => by exfalso; rw [Array.getD_eq_getD_getElem?, Array.getElem?_replicate] at hl; split at hl <;> simp at hl) (by have := wpAny_of_held _ _ _ _ (h hS); rw [hn] at this; exact this)
theorem LastQ.step {a : Act} {w : World} {o : Oper} (ho : ops[z]? = some o) (hg : o.guard = none) (h : Oper.wp P o a w (fun a' w' => Q .normal a' w') Q) : LastQ P ops Q z .normal a w := by
  show wpOp P ops Q z _ a w
  unfold wpOp
  simp only [ho]
  rw [if_pos (by simp [Region.wanted, hg])]
  exact .inl h
end
end Go.Proofs.YtbamdibpkkponaaDoor

/- A drawn region in a round of a range over a function: the plain rules serve. -/
namespace Go.Proofs.YtbamdibpkkponaaDoor
open Go.RowKit Go.Shelf

theorem rows_wide {l n : Nat} {P : Program} {row : String} {args : Array Value} {w : World} {R : Value → World → Prop} (h : Rows P row args w R) : RowsIn (Fence.wide.inRound l) n P row args w R := fun c cs _ => by
  obtain ⟨v, w', hR, hs⟩ := h c cs
  exact ⟨v, w', hR, stepsIn_wide.2 hs⟩
theorem oper_wide {l n : Nat} {P : Program} {Q : Exit → Act → World → Prop} {o : Oper} {K : Act → World → Prop} {a : Act} {w : World} (hd : ∀ c, o.op ≠ .defer c) (h : o.wp P a w K Q) : o.wpIn (Fence.wide.inRound l) n P a w K Q := by
  unfold Oper.wpIn
  refine ⟨fun _ _ => trivial, ?_⟩
  rw [Oper.semAt_plain _ _ _ hd]
  unfold Oper.wp at h
  generalize (execOp a.eval o).run P w = r at *
  cases r with
  | ok x w' =>
    cases x with
    | value v => exact h
    | skip => exact h
    | defer d => exact h
    | enter f args => exact And.intro (fun hs => by simp [Fence.inRound, Fence.wide] at hs) (CallsIn.inRound l (callsIn_wide.2 h))
    | row row args =>
      refine And.intro (fun hs => by simp [Fence.inRound, Fence.wide] at hs) ?_
      exact rows_wide h
    | _ => exact h.elim
  | halt x w' => cases x <;> exact h
theorem wpOp_wide {l n : Nat} {P : Program} {Q : Exit → Act → World → Prop} {ops : Array Oper} {i : Nat} {K K' : Act → World → Prop} {a : Act} {w : World} (hL : ¬ LetsOut Q) (hd : ∀ o ∈ ops.toList, ∀ c, o.op ≠ .defer c)
    (hK : ∀ a w, K a w → K' a w) (h : wpOp P ops Q i K a w) : wpOpIn (Fence.wide.inRound l) n P ops Q i K' a w := by
  unfold wpOp at h
  unfold wpOpIn
  cases ho : ops[i]? with
  | none => rw [ho] at h; exact hK _ _ h
  | some o =>
    rw [ho] at h
    dsimp only at h ⊢
    have hm : o ∈ ops.toList := by
      rw [← Array.getElem?_toList] at ho
      exact List.mem_of_getElem? ho
    split
    · rename_i hw
      rw [if_pos hw] at h
      rcases h with h | h
      · exact oper_wide (hd o hm) (Oper.wp_mono hK h)
      · exact absurd h.2 hL
    · rename_i hw
      rw [if_neg hw] at h
      exact ⟨fun _ _ => trivial, hK _ _ h⟩
theorem wpAny_wide {l n : Nat} {P : Program} {md : Region.Mode} {Q : Exit → Act → World → Prop} {ops : Array Oper} (hL : ¬ LetsOut Q) (hd : ∀ o ∈ ops.toList, ∀ c, o.op ≠ .defer c) :
    ∀ (fuel : Nat) (listed : Array Bool) (a : Act) (w : World), wpAny P md ops Q fuel listed a w → wpAnyIn (Fence.wide.inRound l) n P md ops Q fuel listed a w
  | 0, _, _, _, h => h
  | fuel + 1, _, _, _, h => ⟨h.1, fun i hi => wpOp_wide hL hd (wpAny_wide hL hd fuel _) (h.2 i hi)⟩
theorem region_wide {l n id : Nat} {P : Program} {ops : Array Oper} {Q : Exit → Act → World → Prop} {a : Act} {w : World} {S : World → Prop} (hm : P.follows .mixedOrders = true) (hL : ¬ LetsOut Q) (hd : (ops.toList.all fun o => match o.op with | .defer _ => false | _ => true) = true)
    (hS : S w.drew) (h : S w.drew → wpAnyH P .any ops Q S ops.size (Array.replicate ops.size false) a w.drew) : (Code.region id ops true).wpIn (Fence.wide.inRound l) n P Q a w :=
  wpIn_region_any hm (wpAny_wide hL (fun o ho c e => by
    have := List.all_eq_true.1 hd o ho
    rw [e] at this
    cases this) _ _ _ _ (wpAny_of_held _ _ _ _ (h hS)))
theorem region_wide_last {l m id n : Nat} {P : Program} {ops : Array Oper} {Q : Exit → Act → World → Prop} {a : Act} {w : World} {S : World → Prop} (hm : P.follows .mixedOrders = true) (hL : ¬ LetsOut Q) (hd : (ops.toList.all fun o => match o.op with | .defer _ => false | _ => true) = true)
    (hn : ops.size = n + 1) (hok : lastOk ops .any n = true) (hS : S w.drew) (h : S w.drew → wpAnyH P .any ops (LastQ P ops Q n) S n ((Array.replicate ops.size false).setIfInBounds n true) a w.drew) : (Code.region id ops true).wpIn (Fence.wide.inRound l) m P Q a w := by
  refine wpIn_region_any hm (wpAny_wide hL (fun o ho c e => by
    have := List.all_eq_true.1 hd o ho
    rw [e] at this
    cases this) _ _ _ _ ?_)
  rw [hn]
  exact wpAny_last hok n _ a _ (by simp [hn]) (by simp) (fun i o _ _ hl => by exfalso; rw [Array.getD_eq_getD_getElem?, Array.getElem?_replicate] at hl; split at hl <;> simp at hl) (by have := wpAny_of_held _ _ _ _ (h hS); rw [hn] at this; exact this)
theorem region_noPanicIn {F : Fence} {n id : Nat} {P : Program} {ops : Array Oper} {b : Bool} {Q : Exit → Act → World → Prop} {a : Act} {w : World} (h : (Code.region id ops b).wpIn F n P (NoPanic Q) a w) : (Code.region id ops b).wpIn F n P Q a w :=
  wpIn_mono h NoPanic.imp
end Go.Proofs.YtbamdibpkkponaaDoor

/- What summary.Encode's last loop holds; its bytes, in plain lists. -/
namespace Go.Proofs.YtbamdibpkkponaaDoor
open Go.RowKit Go.Shelf

def secsS (e c : Int) (W : List UInt8) (pre : List (Fin 8)) : List UInt8 := (pre.zipIdx).flatMap fun p => tw e ++ tw c ++ [b8 ((p.2 : Nat) : Int)] ++ (W.drop (11 * p.1.1)).take 11
theorem secsS_snoc (e c : Int) (W : List UInt8) (pre : List (Fin 8)) (x : Fin 8) : secsS e c W (pre ++ [x]) = secsS e c W pre ++ (tw e ++ tw c ++ [b8 ((pre.length : Nat) : Int)] ++ (W.drop (11 * x.1)).take 11) := by
  simp [secsS, List.zipIdx_append]
theorem secsS_len {e c : Int} {W : List UInt8} (hW : W.length = 88) (pre : List (Fin 8)) : (secsS e c W pre).length = 16 * pre.length := by
  unfold secsS
  rw [List.length_flatMap]
  have : ∀ p ∈ pre.zipIdx, (tw e ++ tw c ++ [b8 ((p.2 : Nat) : Int)] ++ (W.drop (11 * p.1.1)).take 11).length = 16 := fun p _ => by
    have := p.1.2
    rw [List.length_append, List.length_take, List.length_drop, hW]
    show 5 + _ = 16
    omega
  rw [List.map_congr_left (g := fun _ => 16) this, List.map_const', List.sum_replicate_nat, List.length_zipIdx, Nat.mul_comm]
theorem secsS_all {e c : Int} {W : List UInt8} {pre : List (Fin 8)} (h : pre.map (·.1) = List.range 8) : secsS e c W pre = encB e c W := by
  have h1 : secsS e c W pre = ((pre.map (·.1)).zipIdx).flatMap fun p => tw e ++ tw c ++ [b8 ((p.2 : Nat) : Int)] ++ (W.drop (11 * p.1)).take 11 := by
    rw [List.zipIdx_map, List.flatMap_map]
    rfl
  rw [h1, h]
  rfl
theorem own_some {w : World} {base n c : Nat} {A : Option Addr} {l : List UInt8} (h : OwnBy w base A n c l) (hn : 0 < n) : ∃ g, A = some ⟨g, 0, none⟩ ∧ base ≤ g ∧ g < w.heap.size ∧ n ≤ c ∧ c ≤ 9223372036854775807 := by
  obtain ⟨A', c', hv, h1, h2⟩ := own_form h
  rcases h.2 with ⟨hv2, hl⟩ | ⟨g, cap, cur, hv2, hb, hB, h3, h4, -⟩
  · have := h.1
    rw [hl] at this
    simp at this
    omega
  · simp only [Value.slice.injEq] at hv2
    obtain ⟨rfl, -, rfl⟩ := hv2
    exact ⟨g, rfl, hb, (Array.getElem?_eq_some_iff.1 hB).1, h3, h4⟩
theorem by_cutS {w : World} {B g n i m : Nat} {l : List UInt8} (h : By w B (some ⟨g, 0, none⟩) n l) (hm : i + m ≤ n) : By w B (some ⟨g, i, none⟩) m ((l.drop i).take m) := by
  have hl := h.len
  rw [u8s_length] at hl
  refine ⟨by rw [u8s_length, List.length_take, List.length_drop]; omega, fun j u hu => ?_⟩
  have hj : j < m := by
    have := (List.getElem?_eq_some_iff.1 hu).1
    rw [u8s_length, List.length_take] at this
    omega
  have hu2 : (u8s l)[i + j]? = some u := by
    rw [u8s, List.map_take, List.map_drop, List.getElem?_take, if_pos hj, List.getElem?_drop] at hu
    exact hu
  obtain ⟨ad, e, hb, hc⟩ := h.cells (i + j) u hu2
  injection e with e
  subst e
  refine ⟨_, rfl, hb, ?_⟩
  rw [Addr.add_mid] at hc ⊢
  simpa [Nat.add_assoc] using hc
/-- What the loop holds: the boxes, the words, the row that grows. -/
structure SmI (w w2 w5 : World) (g2 g14 gw kw : Nat) (cp : Array Value) (Lw : List UInt8) (W : World) (A : Option Addr) (m k : Nat) (xs : List UInt8) : Prop where
  h14 : Blk W g14 30 #[.slice A m k]
  r : OwnBy W w5.heap.size A m k xs
  h2 : Blk W g2 25 cp
  wd : OwnBy W w2.heap.size (some ⟨gw, 0, none⟩) 88 kw Lw
  b : Below w.heap.size w W
  s : w5.heap.size ≤ W.heap.size
section
variable {w w2 w5 W W' : World} {g2 g14 gw kw : Nat} {cp : Array Value} {Lw : List UInt8} {A A' : Option Addr} {m k m' k' : Nat} {xs ys : List UInt8}
theorem SmI.gr (h : SmI w w2 w5 g2 g14 gw kw cp Lw W A m k xs) {row : Option Nat} (hw : w.heap.size ≤ w5.heap.size) (hg : W.grownBy W' row) (hrow : ∀ g, row = some g → w5.heap.size ≤ g ∧ ∃ o, W.heap[g]? = some o ∧ o.isCells = false) : SmI w w2 w5 g2 g14 gw kw cp Lw W' A m k xs := by
  have hnc : ∀ g t cs, Blk W g t cs → some g ≠ row := fun g t cs hb e => by
    obtain ⟨-, o, ho, hoc⟩ := hrow g e.symm
    have : some o = some (Obj.cells cs t) := ho.symm.trans hb
    injection this with this
    subst this
    cases hoc
  have hnr : ∀ {base n : Nat} {v : Value} {zs : List Value}, W.ownsRow base 5 1 v n zs → ∀ g, v.ownBlock = some g → some g ≠ row := fun hr g hgb => by
    rcases hr.2 with ⟨hv, -⟩ | ⟨g', cap, cur, hv, -, hB', -⟩
    · rw [hv] at hgb; cases hgb
    · rw [hv] at hgb
      simp only [Value.ownBlock, Option.some.injEq] at hgb
      subst hgb
      exact hnc _ _ _ hB'
  exact ⟨blk_gr h.h14 hg (hnc _ _ _ h.h14), own_gr h.r hg (hnr h.r), blk_gr h.h2 hg (hnc _ _ _ h.h2), own_gr h.wd hg (hnr h.wd), bel_gr h.b hg (fun g e => Nat.le_trans hw (hrow g e).1) h.b.size, Nat.le_trans h.s hg.size⟩
theorem SmI.next (h : SmI w w2 w5 g2 g14 gw kw cp Lw W A m k xs) (hlt : g14 < w5.heap.size) (hne : g2 ≠ g14) (hgw : gw < g14) (hw : w.heap.size ≤ g14) (hb : Below W.heap.size W W') (ho : OwnBy W' w5.heap.size A' m' k' ys) :
    SmI w w2 w5 g2 g14 gw kw cp Lw (W'.setCell ⟨g14, 0, none⟩ (.slice A' m' k')) A' m' k' ys ∧ KeepsOthers W (W'.setCell ⟨g14, 0, none⟩ (.slice A' m' k')) ∧ ∀ gs : List Nat, (∀ g ∈ gs, g < W.heap.size ∧ g ≠ g14) → KpS gs W (W'.setCell ⟨g14, 0, none⟩ (.slice A' m' k')) := by
  have hsz := World.size_setCell W' ⟨g14, 0, none⟩ (.slice A' m' k')
  refine ⟨⟨?_, ?_, ?_, ?_, ?_, ?_⟩, ?_, ?_⟩
  · have := (h.h14.below hb).set 0 (.slice A' m' k')
    simpa using this
  · exact own_kq ho ((Kp.refl [g14] W').set (p := ⟨g14, 0, none⟩) (.inl (by simp)) _) (fun g hg => by have := (ho.lt g hg).1; simp; omega)
  · exact (h.h2.below hb).far (p := ⟨g14, 0, none⟩) hne _
  · exact own_kq (own_bel h.wd hb) ((Kp.refl [g14] W').set (p := ⟨g14, 0, none⟩) (.inl (by simp)) _) (fun g hg => by
      simp only [Value.ownBlock, Option.some.injEq] at hg
      subst hg
      simp; omega)
  · exact (h.b.trans (hb.mono h.b.size)).setCell (p := ⟨g14, 0, none⟩) hw _
  · rw [hsz]; exact Nat.le_trans h.s hb.size
  · exact (⟨hb.size, fun q o hq _ => (hb.block q (Array.getElem?_eq_some_iff.1 hq).1).trans hq⟩ : KeepsOthers W W').trans (KeepsOthers.setCell _ _ _)
  · intro gs hgs g hg
    obtain ⟨h1, h2⟩ := hgs g hg
    rw [((Kp.refl [g14] W').set (p := ⟨g14, 0, none⟩) (.inl (by simp)) (.slice A' m' k')).block g (Nat.lt_of_lt_of_le h1 hb.size) (by simp; exact h2)]
    exact hb.block g h1
end
end Go.Proofs.YtbamdibpkkponaaDoor
