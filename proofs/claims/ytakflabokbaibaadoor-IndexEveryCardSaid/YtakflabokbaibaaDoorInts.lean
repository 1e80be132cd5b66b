/- Rows of integers of the call's own; what append leaves of other blocks. -/
import Derived.Test.YtakflabokbaibaaDoorEty8
import Derived.Test.YtakflabokbaibaaDoorBlk
import Derived.Test.YtakflabokbaibaaDoorOwn
import Derived.Deep.RegionWith
import Derived.Deep.RegionHeld3
import Derived.Deep.MidRow
import Derived.Great.FillDense
import Derived.Great.BuildSlice
set_option linter.unusedVariables false
set_option linter.unusedSimpArgs false
namespace Go.Proofs.YtakflabokbaibaaDoor
open Go.RowKit

/-- Integers as cells. -/
def intC (l : List Int) : List Value := l.map (Value.int .i64)
theorem intC_app (l : List Int) (x : Int) : intC l ++ [.int .i64 x] = intC (l ++ [x]) := by simp [intC]
theorem intC_apps (l m : List Int) : intC l ++ intC m = intC (l ++ m) := by simp [intC]
theorem intC_one (l : List Int) : ∀ u ∈ intC l, u.oneCell' = true := fun u hu => by
  obtain ⟨x, _, rfl⟩ := List.mem_map.1 hu
  rfl
theorem intC_len (l : List Int) : (intC l).length = l.length := by simp [intC]
theorem etyJ : Ety Tryd.prog 23 3 (.int .i64 0) 8 := Ety.mk' Tryd.underlying23 (by kernel_rfl) (by rfl) (by decide)
theorem int_slice (w : World) (x : Int) : (Instr.buildSlice 23 1 #[(0, .int .i64 x)]).run Tryd.prog w = .ok (.slice (some ⟨w.heap.size, 0, none⟩) 1 1) (w.alloc (.cells #[.int .i64 x] 3)) := by
  have hz : (Tryd.prog.info? 3).map (fun i => (i.zero, i.size, i.bytes)) = some (some (.int .i64 0), 1, 8) := by kernel_rfl
  obtain ⟨ie, hi, h1, h2, h3⟩ := info_parts hz
  have hfill := Great.fill_whole (s := 1) (by omega) [Value.int .i64 x] ((Array.range (1 * ie.size)).map ((Value.int .i64 0).cells[· % (Value.int .i64 0).cells.size]!)) (fun v hv => by
    rw [List.mem_singleton] at hv
    subst hv
    simp [Value.cells]) (by simp [h2])
  refine run_buildSlice w 23 3 1 _ #[.int .i64 x] ie _ Tryd.underlying23 hi h1 (by rw [h2]; omega) (by rw [h2]; omega) ?_
  rw [h2] at hfill ⊢
  simpa [Value.cells] using hfill
theorem bel_gr {B : Nat} {a w w' : World} (h : Below B a w) {r : Option Nat} (hg : w.grownBy w' r) (hr : ∀ g, r = some g → B ≤ g) (hB : B ≤ w.heap.size) : Below B a w' :=
  ⟨hg.os.trans h.os, hg.tape.trans h.tape, hg.output.trans h.output, Nat.le_trans h.size hg.size, fun i hi => (hg.block i (Nat.lt_of_lt_of_le hi hB) (fun e => by have := hr i e.symm; omega)).trans (h.block i hi)⟩
theorem blk_gr {w w' : World} {r : Option Nat} {g : Nat} {t : TypeId} {cs : Array Value} (h : Blk w g t cs) (hg : w.grownBy w' r) (hn : some g ≠ r) : Blk w' g t cs := (hg.block g h.lt hn).trans h
theorem own_kq {w w' : World} {base n k : Nat} {e : TypeId} {v : Value} {xs : List Value} (h : w.ownsRow base e k v n xs) {gs : List Nat} (hk : Kp gs w w') (hv : ∀ g, v.ownBlock = some g → g ∉ gs) : w'.ownsRow base e k v n xs := by
  refine ⟨h.1, ?_⟩
  rcases h.2 with h0 | ⟨g, cap, cur, rfl, h2, h3, h4⟩
  · exact .inl h0
  · exact .inr ⟨g, cap, cur, rfl, h2, Blk.kp h3 hk (hv g rfl), h4⟩
theorem own_bel {w w' : World} {base n k : Nat} {e : TypeId} {v : Value} {xs : List Value} (h : w.ownsRow base e k v n xs) (hb : Below w.heap.size w w') : w'.ownsRow base e k v n xs :=
  own_kq h (Kp.of_below (gs := []) hb) (by simp)
theorem own_bq {w : World} {base base' n k : Nat} {e : TypeId} {v : Value} {xs : List Value} (h : w.ownsRow base e k v n xs) (hb : base' ≤ base) : w.ownsRow base' e k v n xs := by
  refine ⟨h.1, ?_⟩
  rcases h.2 with h0 | ⟨g, cap, cur, h1, h2, h3⟩
  · exact .inl h0
  · exact .inr ⟨g, cap, cur, h1, Nat.le_trans hb h2, h3⟩
theorem own_gr {w w' : World} {base n k : Nat} {e : TypeId} {v : Value} {xs : List Value} {r : Option Nat} (h : w.ownsRow base e k v n xs) (hg : w.grownBy w' r) (hv : ∀ g, v.ownBlock = some g → some g ≠ r) : w'.ownsRow base e k v n xs := by
  refine ⟨h.1, ?_⟩
  rcases h.2 with h0 | ⟨g, cap, cur, rfl, h2, h3, h4⟩
  · exact .inl h0
  · exact .inr ⟨g, cap, cur, rfl, h2, blk_gr h3 hg (hv g rfl), h4⟩
theorem own_nw {w : World} {base k : Nat} {e : TypeId} (hb : base ≤ w.heap.size) : (w.alloc (.cells #[] e)).ownsRow base e k (.slice (some ⟨w.heap.size, 0, none⟩) 0 0) 0 [] :=
  ⟨by simp, .inr ⟨w.heap.size, 0, #[], rfl, hb, heap_alloc_new w _, Nat.le_refl _, by simp [maxLen], by simp, by simp⟩⟩
theorem own_set1 {w : World} {base n c k : Nat} {e : TypeId} {A : Option Addr} {xs : List Value} (h : w.ownsRow base e 1 (.slice A n c) n xs) (hk : k < n) :
    ∃ g u, A = some ⟨g, 0, none⟩ ∧ base ≤ g ∧ g < w.heap.size ∧ xs[k]? = some u ∧ w.cell? ⟨g, k, none⟩ = some u ∧ w.frozen? ⟨g, k, none⟩ = false ∧ ∀ v, (w.setCell ⟨g, k, none⟩ v).ownsRow base e 1 (.slice A n c) n (xs.set k v) := by
  obtain ⟨ad, u, hA, h1, h2, h3, h4, h5, h6⟩ := own_at h hk
  rcases h.2 with ⟨hv, _⟩ | ⟨g, cap, cur, hv, _⟩
  · rw [hA] at hv; injection hv with hv; cases hv
  · injection hv with hv
    rw [hA] at hv
    injection hv with hv
    subst hv
    rw [Addr.add_mid, Nat.zero_add] at h4 h5
    refine ⟨g, u, hA, h1, h2, h3, h4, h5, fun v => ?_⟩
    have := h6 v
    rwa [Addr.add_mid, Nat.zero_add] at this
/-- A row of integers of the call's own. -/
abbrev OwnI (w : World) (base : Nat) (A : Option Addr) (c : Nat) (l : List Int) : Prop := w.ownsRow base 3 1 (.slice A l.length c) l.length (intC l)
theorem ob' (A : Option Addr) (n c : Nat) : (Value.slice A n c).ownBlock = (Value.slice A 0 0).ownBlock := by cases A <;> rfl
theorem OwnI.nil {w : World} {base : Nat} : OwnI w base none 0 [] := World.ownsRow_nil _ _ _ _
theorem OwnI.lt {w : World} {base c : Nat} {A : Option Addr} {l : List Int} (h : OwnI w base A c l) : ∀ g, (Value.slice A 0 0).ownBlock = some g → base ≤ g ∧ g < w.heap.size := fun g hg => World.ownsRow.lt h g (by rw [← hg]; exact ob' _ _ _)
theorem OwnI.at {w : World} {base c : Nat} {A : Option Addr} {l : List Int} (h : OwnI w base A c l) {k : Nat} (hk : k < l.length) : ∃ g x, A = some ⟨g, 0, none⟩ ∧ base ≤ g ∧ g < w.heap.size ∧ l[k]? = some x ∧ w.cell? ⟨g, k, none⟩ = some (.int .i64 x) := by
  obtain ⟨g, u, hA, h1, h2, h3, h4, -, -⟩ := own_set1 h hk
  have hx : l[k]? = some l[k] := List.getElem?_eq_getElem hk
  refine ⟨g, l[k], hA, h1, h2, hx, ?_⟩
  rw [intC, List.getElem?_map, hx] at h3
  simp only [Option.map_some, Option.some.injEq] at h3
  rw [h4, h3]
/-- One integer of a row. -/
theorem one_int (w : World) (x : Int) : Sl (w.alloc (.cells #[.int .i64 x] 3)) (w.heap.size + 1) (some ⟨w.heap.size, 0, none⟩) 1 [.int .i64 x] := by
  refine ⟨rfl, fun i u hu => ⟨_, rfl, by simp, ?_⟩⟩
  rw [Addr.add_mid, Nat.zero_add, (Blk.new w _ _).cell]
  simpa using hu
end Go.Proofs.YtakflabokbaibaaDoor
