/- Rows of bytes of the call's own, no two in one block. -/
import Derived.Test.YtbmblofhogihdaaMcW
namespace Go.Proofs.Ytbmblofhogihdaa
open Go.RowKit

theorem blk_typeM {w : World} {g : Nat} {t t' : TypeId} {cs cs' : Array Value} (h : Blk w g t cs) (h' : Blk w g t' cs') : t = t' := by
  have := h.symm.trans h'
  injection this with this
  injection this
theorem own_blkTM {w : World} {base n k : Nat} {e : TypeId} {v : Value} {xs : List Value} (O : w.ownsRow base e k v n xs) {g : Nat} (hg : v.ownBlock = some g) : base ≤ g ∧ g < w.heap.size ∧ ∃ cs, Blk w g e cs := by
  rcases O.2 with ⟨hv, -⟩ | ⟨g', cap, cur, hv, hb, hB', -⟩
  · rw [hv] at hg; cases hg
  · rw [hv] at hg
    simp only [Value.ownBlock, Option.some.injEq] at hg
    subst hg
    exact ⟨hb, Blk.lt hB', cur, hB'⟩
theorem kp_grM {w w' : World} {r : Option Nat} (h : w.grownBy w' r) : Kp r.toList w w' :=
  ⟨h.os, h.tape, h.output, h.size, fun k hk hn => h.block k hk (fun e => hn (by rw [← e]; simp))⟩
/-- A block of another type is none of a row's. -/
theorem own_outM {w : World} {base n k g : Nat} {e t : TypeId} {v : Value} {xs : List Value} {cs : Array Value} (O : w.ownsRow base e k v n xs) (hB : Blk w g t cs) (hne : e ≠ t) : g ∉ v.ownBlock.toList := fun hm => by
  cases hb : v.ownBlock with
  | none => rw [hb] at hm; cases hm
  | some g' =>
    rw [hb] at hm
    simp only [Option.toList_some, List.mem_singleton] at hm
    subst hm
    obtain ⟨-, -, cs', hB'⟩ := own_blkTM O hb
    exact hne (blk_typeM hB' hB)
theorem own_setM {w : World} {base n c m : Nat} {e : TypeId} {A : Option Addr} {xs : List Value} (h : w.ownsRow base e 1 (.slice A n c) n xs) (hm : m < n) :
    ∃ g u cur, A = some ⟨g, 0, none⟩ ∧ base ≤ g ∧ Blk w g e cur ∧ xs[m]? = some u ∧ w.cell? ⟨g, m, none⟩ = some u ∧ w.frozen? ⟨g, m, none⟩ = false ∧ ∀ v, (w.setCell ⟨g, m, none⟩ v).ownsRow base e 1 (.slice A n c) n (xs.set m v) := by
  obtain ⟨hl, h⟩ := h
  rcases h with ⟨-, h0⟩ | ⟨g, cap, cur, h1, h2, h3, h4, h5, h6, h7⟩
  · omega
  · have h1' := h1
    injection h1 with h1 _ h8
    subst h1 h8
    have hB : Blk w g e cur := h3
    rw [Nat.mul_one] at hl h7
    have hmx : m < xs.length := by rw [hl]; exact hm
    have hu : xs[m]? = some xs[m] := List.getElem?_eq_getElem hmx
    have hc : w.cell? ⟨g, m, none⟩ = some xs[m] := by
      rw [hB.cell m, ← hu, ← h7, List.getElem?_take_of_lt hm]
      simp
    refine ⟨g, xs[m], cur, rfl, h2, hB, hu, hc, hB.frozen m, fun v => ⟨by rw [List.length_set, Nat.mul_one]; exact hl, .inr ⟨g, c, cur.setIfInBounds m v, rfl, h2, hB.set m v, h4, h5, by simpa using h6, ?_⟩⟩⟩
    rw [Nat.mul_one, ← h7, Array.toList_setIfInBounds, List.take_set]
/-- A write of an integer into a row of integers. -/
theorem row_bumpM {w : World} {base n c k : Nat} {e : TypeId} {A : Option Addr} {kd : IntKind} {xs : List Value} (h : w.ownsRow base e 1 (.slice A n c) n xs) (hx : ∀ u ∈ xs, ∃ z, u = .int kd z) (hk : k < n) :
    ∃ g z, A = some ⟨g, 0, none⟩ ∧ base ≤ g ∧ w.cell? ⟨g, k, none⟩ = some (.int kd z) ∧ w.frozen? ⟨g, k, none⟩ = false ∧
      ∀ y, ∃ xs', (w.setCell ⟨g, k, none⟩ (.int kd y)).ownsRow base e 1 (.slice A n c) n xs' ∧ ∀ u ∈ xs', ∃ z, u = .int kd z := by
  obtain ⟨g, u, cur, hA, hg, hB, hu, hc, hf, hs⟩ := own_setM h (m := k) (by omega)
  obtain ⟨z, rfl⟩ := hx u (List.mem_of_getElem? hu)
  refine ⟨g, z, hA, hg, hc, hf, fun y => ⟨_, hs _, fun u hu => ?_⟩⟩
  rcases List.mem_or_eq_of_mem_set hu with h1 | h1
  · exact hx u h1
  · exact ⟨y, h1⟩
theorem u8s_intsM (l : List UInt8) : ∀ u ∈ u8s l, ∃ z, u = .int .u8 z := by
  intro u hu
  obtain ⟨x, -, rfl⟩ := List.mem_map.1 hu
  exact ⟨_, rfl⟩
theorem rowB_one (rs : List RowB) : ∀ u ∈ rs.map RowB.v, u.oneCell' = true := by
  intro u hu
  obtain ⟨r, _, rfl⟩ := List.mem_map.1 hu
  rfl

structure OwR (base : Nat) (w : World) (rs : List RowB) : Prop where
  own : ∀ r ∈ rs, w.ownsRow base 5 1 r.v r.n (u8s r.l)
  ne : rs.Pairwise fun r s => ∀ g, r.v.ownBlock = some g → s.v.ownBlock ≠ some g
section
variable {base n c : Nat} {w w' : World} {A : Option Addr} {rs : List RowB}
theorem OwR.nil : OwR base w [] := ⟨fun r hr => absurd hr (List.not_mem_nil), List.Pairwise.nil⟩
theorem OwR.bel (h : OwR base w rs) (hb : Below w.heap.size w w') : OwR base w' rs := ⟨fun r hr => own_bel (h.own r hr) hb, h.ne⟩
theorem OwR.kp (h : OwR base w rs) {gs : List Nat} (hk : Kp gs w w') (hg : ∀ r ∈ rs, ∀ g, r.v.ownBlock = some g → g ∉ gs) : OwR base w' rs := ⟨fun r hr => own_kq (h.own r hr) hk (hg r hr), h.ne⟩
theorem OwR.bq {base' : Nat} (h : OwR base w rs) (hb : base' ≤ base) : OwR base' w rs := ⟨fun r hr => own_bq (h.own r hr) hb, h.ne⟩
theorem OwR.lt (h : OwR base w rs) : ∀ r ∈ rs, ∀ g, r.v.ownBlock = some g → base ≤ g ∧ g < w.heap.size := fun r hr g hg => ⟨(own_blkTM (h.own r hr) hg).1, (own_blkTM (h.own r hr) hg).2.1⟩
theorem OwR.add (h : OwR base w rs) {base2 : Nat} (hb : base ≤ base2) (hlt : ∀ s ∈ rs, ∀ g, s.v.ownBlock = some g → g < base2) {r : RowB} (ho : w.ownsRow base2 5 1 r.v r.n (u8s r.l)) : OwR base w (rs ++ [r]) := by
  refine ⟨fun s hs => ?_, ?_⟩
  · rcases List.mem_append.1 hs with hs | hs
    · exact h.own s hs
    · rw [List.mem_singleton.1 hs]
      exact own_bq ho hb
  · rw [List.pairwise_append]
    refine ⟨h.ne, List.pairwise_singleton _ _, fun s hs q hq g hg hg2 => ?_⟩
    rw [List.mem_singleton.1 hq] at hg2
    have h1 := hlt s hs g hg
    have h2 := (own_blkTM ho hg2).1
    omega
/-- A row of slices has grown: the rows stay. -/
theorem OwR.gr (h : OwR base w rs) {base2 m k : Nat} {v : Value} {xs : List Value} (O : w.ownsRow base2 44 k v m xs) (hg : w.grownBy w' v.ownBlock) : OwR base w' rs :=
  h.kp (kp_grM hg) (fun r hr g hg => by
    obtain ⟨-, -, cs, hB⟩ := own_blkTM (h.own r hr) hg
    exact own_outM O hB (by decide))
theorem OwR.tail {r : RowB} (h : OwR base w (r :: rs)) : OwR base w rs := ⟨fun s hs => h.own s (List.mem_cons_of_mem _ hs), (List.pairwise_cons.1 h.ne).2⟩
/-- The first one is written: the others stay. -/
theorem OwR.bump {r : RowB} (h : OwR base w (r :: rs)) (hk : Kp r.v.ownBlock.toList w w') : OwR base w' rs :=
  h.tail.kp hk (fun s hs g hg hm => by
    have := (List.pairwise_cons.1 h.ne).1 s hs g
    cases hb : r.v.ownBlock with
    | none => rw [hb] at hm; cases hm
    | some g' =>
      rw [hb] at hm
      simp only [Option.toList_some, List.mem_singleton] at hm
      subst hm
      exact this hb hg)
theorem OwR.bls (h : OwR base w rs) (O : w.ownsRow base 44 1 (.slice A n c) n (rs.map RowB.v)) : BlsAt w A n (rs.map RowB.l) := by
  refine ⟨rs, rfl, Sl.of_own O, fun r hr => ?_⟩
  have ho := h.own r hr
  obtain ⟨A', c', e, h1, h2⟩ := own_form ho
  have e' : RowB.v r = .slice r.a r.n r.c := rfl
  rw [e'] at e ho
  injection e with e1 e2 e3
  subst e1 e3
  exact ⟨Sl.of_own ho, h1, h2⟩
end
end Go.Proofs.Ytbmblofhogihdaa
