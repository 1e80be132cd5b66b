/- The walk over disk.Barrier. -/
import Derived.Test.YtfaingklglelnaaDskBaW
namespace Go.Proofs.Ytfaingklglelnaa
open Go.RowKit

/-- The sure blocks when the queue's writes are put. -/
def putQ (q : List (Nat × List UInt8)) (l : List (List UInt8)) : List (List UInt8) := q.foldl (fun l x => l.set x.1 x.2) l
theorem putQ_step (q : List (Nat × List UInt8)) (j : Nat) (l : List (List UInt8)) (x : Nat × List UInt8) (hx : q[j]? = some x) : putQ (q.take (j + 1)) l = (putQ (q.take j) l).set x.1 x.2 := by
  unfold putQ
  rw [List.take_add_one, hx, List.foldl_append]
  rfl
theorem putQ_len (q : List (Nat × List UInt8)) (l : List (List UInt8)) : (putQ q l).length = l.length := by
  induction q generalizing l with
  | nil => rfl
  | cons x q ih => show (putQ q (l.set x.1 x.2)).length = _; rw [ih, List.length_set]
theorem putQ_64 (q : List (Nat × List UInt8)) (l : List (List UInt8)) (hq : ∀ x ∈ q, x.2.length = 64) (hl : ∀ b ∈ l, b.length = 64) : ∀ b ∈ putQ q l, b.length = 64 := by
  induction q generalizing l with
  | nil => exact hl
  | cons x q ih =>
    refine ih _ (fun y hy => hq y (by simp [hy])) (fun b hb => ?_)
    rcases List.mem_or_eq_of_mem_set hb with h | h
    · exact hl b h
    · rw [h]; exact hq x (by simp)
theorem st_mid (w : World) (s o : Nat) (x : List UInt8) (hx : w.there s o (u8s x).length) : (storeCells ⟨s, o, none⟩ (u8s x) 0).run Try.prog w = .ok () (w.setCells s o (u8s x)) := by
  have := run_storeCells_cells (P := Try.prog) s o (u8s x) 0 w (fun j hj => by simpa using (hx j (by simpa using hj)).1) (fun j hj => by simpa using (hx j (by simpa using hj)).2) (fun v hv => u8s_one x v hv)
  simpa using this
theorem there_blk {w : World} {g : Nat} {t : TypeId} {cs : Array Value} (h : Blk w g t cs) (o n : Nat) (hn : o + n ≤ cs.size) : w.there g o n := fun j hj => by
  refine ⟨?_, h.frozen _⟩
  rw [h.cell, Array.getElem?_eq_getElem (by omega)]
  rfl
end Go.Proofs.Ytfaingklglelnaa
