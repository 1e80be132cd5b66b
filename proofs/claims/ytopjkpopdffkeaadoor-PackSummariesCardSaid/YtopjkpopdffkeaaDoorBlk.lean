/- Blocks that are known whole, and what a call keeps of all but some. -/
import Derived.Test.YtopjkpopdffkeaaDoorMem
set_option linter.unusedVariables false
set_option linter.unusedSimpArgs false
namespace Go.Proofs.YtopjkpopdffkeaaDoor
open Go.RowKit

/-- Block g is just these cells, none of them frozen. -/
def Blk (w : World) (g : Nat) (t : TypeId) (cs : Array Value) : Prop := w.heap[g]? = some (.cells cs t (0, 0))
/-- All blocks but these are as they were. -/
structure Kp (gs : List Nat) (w w' : World) : Prop where
  os : w'.os = w.os
  tape : w'.tape = w.tape
  output : w'.output = w.output
  size : w.heap.size ≤ w'.heap.size
  block : ∀ k, k < w.heap.size → k ∉ gs → w'.heap[k]? = w.heap[k]?

section
variable {w w' w2 : World} {g : Nat} {t : TypeId} {cs : Array Value} {gs : List Nat}
theorem Blk.lt (h : Blk w g t cs) : g < w.heap.size := by
  rcases Nat.lt_or_ge g w.heap.size with hl | hg
  · exact hl
  · unfold Blk at h; rw [Array.getElem?_eq_none hg] at h; cases h
theorem Blk.cell (h : Blk w g t cs) (i : Nat) : w.cell? ⟨g, i, none⟩ = cs[i]? := cell_of_row w g i cs t (0, 0) h
theorem Blk.frozen (h : Blk w g t cs) (i : Nat) : w.frozen? ⟨g, i, none⟩ = false := by
  unfold Blk at h; simp [World.frozen?, h]
theorem Blk.new (w : World) (t : TypeId) (cs : Array Value) : Blk (w.alloc (.cells cs t)) w.heap.size t cs := heap_alloc_new w _
theorem Blk.drew (h : Blk w g t cs) : Blk w.drew g t cs := h
theorem Blk.drewN (h : Blk w g t cs) (n : Nat) : Blk (w.drewN n) g t cs := h
theorem Blk.alloc (h : Blk w g t cs) (o : Obj) : Blk (w.alloc o) g t cs := (Below.heap_alloc w o g h.lt).trans h
theorem Blk.set (h : Blk w g t cs) (i : Nat) (u : Value) : Blk (w.setCell ⟨g, i, none⟩ u) g t (cs.setIfInBounds i u) := by
  unfold Blk at h ⊢; simp [World.setCell, Array.getElem?_modify, h]
theorem Blk.far (h : Blk w g t cs) {p : Addr} (hp : g ≠ p.block) (u : Value) : Blk (w.setCell p u) g t cs := (Below.heap_setCell w p u g hp).trans h
theorem Blk.kp (h : Blk w g t cs) (hk : Kp gs w w') (hn : g ∉ gs) : Blk w' g t cs := (hk.block g h.lt hn).trans h
theorem Blk.below (h : Blk w g t cs) (hb : Below w.heap.size w w') : Blk w' g t cs := (hb.block g h.lt).trans h
theorem Kp.refl (gs : List Nat) (w : World) : Kp gs w w := ⟨rfl, rfl, rfl, Nat.le_refl _, fun _ _ _ => rfl⟩
theorem Kp.trans (h : Kp gs w w') (k : Kp gs w' w2) : Kp gs w w2 :=
  ⟨k.os.trans h.os, k.tape.trans h.tape, k.output.trans h.output, Nat.le_trans h.size k.size, fun i hi hn => (k.block i (Nat.lt_of_lt_of_le hi h.size) hn).trans (h.block i hi hn)⟩
theorem Kp.drew (h : Kp gs w w') : Kp gs w w'.drew := ⟨h.os, h.tape, h.output, h.size, h.block⟩
theorem Kp.drewN (h : Kp gs w w') (n : Nat) : Kp gs w (w'.drewN n) := ⟨h.os, h.tape, h.output, h.size, h.block⟩
theorem Kp.alloc (h : Kp gs w w') (o : Obj) : Kp gs w (w'.alloc o) :=
  ⟨h.os, h.tape, h.output, Nat.le_trans h.size (by simp), fun i hi hn => (Below.heap_alloc w' o i (Nat.lt_of_lt_of_le hi h.size)).trans (h.block i hi hn)⟩
theorem Kp.set (h : Kp gs w w') {p : Addr} (hp : p.block ∈ gs ∨ w.heap.size ≤ p.block) (u : Value) : Kp gs w (w'.setCell p u) :=
  ⟨h.os, h.tape, h.output, by simpa [World.setCell] using h.size, fun i hi hn => (Below.heap_setCell w' p u i (by
    rintro rfl
    rcases hp with hp | hp
    · exact hn hp
    · omega)).trans (h.block i hi hn)⟩
theorem Kp.of_below (h : Below w.heap.size w w') : Kp gs w w' := ⟨h.os, h.tape, h.output, h.size, fun i hi _ => h.block i hi⟩
theorem Kp.more {gs' : List Nat} (h : Kp gs w w') (hs : ∀ g ∈ gs, g ∈ gs') : Kp gs' w w' := ⟨h.os, h.tape, h.output, h.size, fun i hi hn => h.block i hi (fun hg => hn (hs i hg))⟩
theorem Kp.below {B : Nat} (h : Kp gs w w') (hB : B ≤ w.heap.size) (hg : ∀ g ∈ gs, B ≤ g) : Below B w w' :=
  ⟨h.os, h.tape, h.output, h.size, fun k hk => h.block k (Nat.lt_of_lt_of_le hk hB) (fun hm => by have := hg k hm; omega)⟩
theorem Below.kp2 {B : Nat} (h : Below B w w') (k : Kp gs w' w2) (hB : B ≤ w'.heap.size) (hg : ∀ g ∈ gs, B ≤ g) : Below B w w2 := h.trans (k.below hB hg)
end

/-- So many bools as cells. -/
def bools (l : List Bool) : Array Value := (l.map Value.bool).toArray
theorem bools_get (l : List Bool) (i : Nat) : (bools l)[i]? = l[i]?.map Value.bool := by simp [bools]
theorem bools_set (l : List Bool) (i : Nat) (b : Bool) : (bools l).setIfInBounds i (.bool b) = bools (l.set i b) := by simp [bools, List.map_set]
theorem bools_rep (n : Nat) : (List.replicate n (Value.bool false)).toArray = bools (List.replicate n false) := by simp [bools]
end Go.Proofs.YtopjkpopdffkeaaDoor
