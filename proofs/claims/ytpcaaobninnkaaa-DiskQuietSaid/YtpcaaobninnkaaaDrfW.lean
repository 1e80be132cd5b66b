/- The reference's disk in memory; step, Arm. -/
import Derived.Test.YtpcaaobninnkaaaDskOrderS
namespace Go.Proofs.Ytpcaaobninnkaaa
open Go.RowKit

/-- Blocks as texts; writes as their numbers and texts. -/
def strC (l : List (List UInt8)) : List Value := l.map fun b => .string (txt b)
def wsC (q : List (Nat × List UInt8)) : List Value := q.flatMap fun x => [.int .i64 (x.1 : Int), .string (txt x.2)]
def refV (As : Option Addr) (cs : Nat) (Aq : Option Addr) (cq : Nat) (D : Dsk) : Array Value := #[.slice As D.sure.length cs, .slice Aq D.queue.length cq, .int .i64 (D.steps : Int), .int .i64 D.left]
theorem ob (A : Option Addr) (n c : Nat) : (Value.slice A n c).ownBlock = (Value.slice A 0 0).ownBlock := by cases A <;> rfl
/-- The reference's disk: its texts and its writes lie in rows above base. -/
structure RefM (w : World) (base : Nat) (As : Option Addr) (cs : Nat) (Aq : Option Addr) (cq : Nat) (D : Dsk) : Prop where
  s : w.ownsRow base 9 1 (.slice As D.sure.length cs) D.sure.length (strC D.sure)
  q : w.ownsRow base 76 2 (.slice Aq D.queue.length cq) D.queue.length (wsC D.queue)
  ok : D.Ok
theorem own_kp {w w' : World} {base n k : Nat} {e : TypeId} {v : Value} {xs : List Value} (h : w.ownsRow base e k v n xs) {gs : List Nat} (hk : Kp gs w w') (hv : ∀ g, v.ownBlock = some g → g ∉ gs) : w'.ownsRow base e k v n xs := by
  refine ⟨h.1, ?_⟩
  rcases h.2 with h0 | ⟨g, cap, cur, rfl, h2, h3, h4⟩
  · exact .inl h0
  · exact .inr ⟨g, cap, cur, rfl, h2, Blk.kp h3 hk (hv g rfl), h4⟩
section
variable {w w' : World} {base cs cq : Nat} {As Aq : Option Addr} {D : Dsk}
theorem RefM.kp (h : RefM w base As cs Aq cq D) {gs : List Nat} (hk : Kp gs w w') (hs : ∀ g, (Value.slice As 0 0).ownBlock = some g → g ∉ gs) (hq : ∀ g, (Value.slice Aq 0 0).ownBlock = some g → g ∉ gs) : RefM w' base As cs Aq cq D :=
  ⟨own_kp h.s hk (fun g hg => hs g (by rw [← hg]; exact (ob _ _ _).symm)), own_kp h.q hk (fun g hg => hq g (by rw [← hg]; exact (ob _ _ _).symm)), h.ok⟩
theorem RefM.below (h : RefM w base As cs Aq cq D) (hb : Below w.heap.size w w') : RefM w' base As cs Aq cq D := h.kp (Kp.of_below (gs := []) hb) (by simp) (by simp)
theorem RefM.sLt (h : RefM w base As cs Aq cq D) : ∀ g, (Value.slice As 0 0).ownBlock = some g → base ≤ g ∧ g < w.heap.size := fun g hg => h.s.lt g (by rw [← hg]; exact ob _ _ _)
theorem RefM.qLt (h : RefM w base As cs Aq cq D) : ∀ g, (Value.slice Aq 0 0).ownBlock = some g → base ≤ g ∧ g < w.heap.size := fun g hg => h.q.lt g (by rw [← hg]; exact ob _ _ _)
/-- Only the numbers turn. -/
theorem RefM.to {D' : Dsk} (h : RefM w base As cs Aq cq D) (e1 : D'.sure = D.sure) (e2 : D'.queue = D.queue) (ok : D'.Ok) : RefM w base As cs Aq cq D' := by
  refine ⟨?_, ?_, ok⟩
  · rw [e1]; exact h.s
  · rw [e2]; exact h.q
end
theorem Dsk.Ok.stepped {D : Dsk} (h : D.Ok) (hs : D.steps < 1000000) : D.stepped.Ok :=
  { h with l := by have := h.l; show -1 ≤ max (D.left - 1) (-1) ∧ max (D.left - 1) (-1) ≤ 9223372036854775807; omega, s := by show D.steps + 1 ≤ 1000000; omega }

theorem rstep_dead (As : Option Addr) (cs : Nat) (Aq : Option Addr) (cq : Nat) (D : Dsk) (w : World) (hl : D.left = 0) :
    Calls Try.prog 32 #[.agg (refV As cs Aq cq D)] w fun e w' => e = .returned (.tuple #[.agg (refV As cs Aq cq D), .bool false]) ∧ Below w.heap.size w w' := by
  unfold refV
  rw [hl]
  go_enter Try.func32, Try.ntmps32
  go_wp2_with fail
  exact bodyPost_ret (v := .tuple #[.agg _, _]) (by simp [results, Try.results32, go_sem]) rfl ⟨rfl, ((Below.refl _ _).alloc (Nat.le_refl _) _).alloc (by simp) _⟩
theorem rstep_ok (As : Option Addr) (cs : Nat) (Aq : Option Addr) (cq : Nat) (D : Dsk) (w : World) (hl : D.left ≠ 0) (ok : D.Ok) (hs : D.steps < 1000000) :
    Calls Try.prog 32 #[.agg (refV As cs Aq cq D)] w fun e w' => e = .returned (.tuple #[.agg (refV As cs Aq cq D.stepped), .bool true]) ∧ Below w.heap.size w w' := by
  unfold refV Dsk.stepped
  obtain ⟨l1, l2⟩ := ok.l
  have hl' : (D.left == 0) = false := by simpa using hl
  generalize D.left = lf at *
  clear hl ok
  by_cases h0 : 0 < lf
  · have em : Hid (max (lf - 1) (-1) = lf - 1) := hide (by omega)
    go_enter Try.func32, Try.ntmps32
    go_wp2_with fail
    exact bodyPost_ret (v := .tuple #[.agg #[.slice As D.sure.length cs, .slice Aq D.queue.length cq, .int .i64 ((D.steps : Int) + 1), .int .i64 (lf - 1)], .bool true]) (by simp [results, Try.results32, go_sem]) rfl ⟨by rw [em.out]; first | done | rfl, ((Below.refl _ _).alloc (Nat.le_refl _) _).alloc (by simp) _⟩
  · have em : Hid (max (lf - 1) (-1) = lf) := hide (by
      have : lf ≠ 0 := by simpa using hl'
      omega)
    go_enter Try.func32, Try.ntmps32
    go_wp2_with fail
    exact bodyPost_ret (v := .tuple #[.agg #[.slice As D.sure.length cs, .slice Aq D.queue.length cq, .int .i64 ((D.steps : Int) + 1), .int .i64 lf], .bool true]) (by simp [results, Try.results32, go_sem]) rfl ⟨by rw [em.out]; first | done | rfl, ((Below.refl _ _).alloc (Nat.le_refl _) _).alloc (by simp) _⟩
theorem rarm_no (As : Option Addr) (cs : Nat) (Aq : Option Addr) (cq : Nat) (D : Dsk) (n : Int) (w : World) (hn : n < 0) :
    Calls Try.prog 28 #[.agg (refV As cs Aq cq D), .int .i64 n] w fun e w' => e = .returned (.tuple #[.agg (refV As cs Aq cq D), .int .i64 22]) ∧ Below w.heap.size w w' := by
  unfold refV
  go_enter Try.func28, Try.ntmps28
  go_wp2_with fail
  exact bodyPost_ret (v := .tuple #[.agg _, _]) (by simp [results, Try.results28, go_sem]) rfl ⟨rfl, ((Below.refl _ _).alloc (Nat.le_refl _) _).alloc (by simp) _⟩
theorem rarm_dead (As : Option Addr) (cs : Nat) (Aq : Option Addr) (cq : Nat) (D : Dsk) (n : Int) (w : World) (hn : ¬ n < 0) (hl : D.left = 0) :
    Calls Try.prog 28 #[.agg (refV As cs Aq cq D), .int .i64 n] w fun e w' => e = .returned (.tuple #[.agg (refV As cs Aq cq D), .int .i64 102]) ∧ Below w.heap.size w w' := by
  unfold refV
  rw [hl]
  go_enter Try.func28, Try.ntmps28
  go_wp2_with fail
  exact bodyPost_ret (v := .tuple #[.agg _, _]) (by simp [results, Try.results28, go_sem]) rfl ⟨rfl, ((Below.refl _ _).alloc (Nat.le_refl _) _).alloc (by simp) _⟩
theorem rarm_ok (As : Option Addr) (cs : Nat) (Aq : Option Addr) (cq : Nat) (D : Dsk) (n : Int) (w : World) (hn : ¬ n < 0) (hl : D.left ≠ 0) :
    Calls Try.prog 28 #[.agg (refV As cs Aq cq D), .int .i64 n] w fun e w' => e = .returned (.tuple #[.agg (refV As cs Aq cq { D with left := n }), .int .i64 0]) ∧ Below w.heap.size w w' := by
  unfold refV
  have hl' : (D.left == 0) = false := by simpa using hl
  generalize D.left = lf at *
  clear hl
  go_enter Try.func28, Try.ntmps28
  go_wp2_with fail
  exact bodyPost_ret (v := .tuple #[.agg _, _]) (by simp [results, Try.results28, go_sem]) rfl ⟨rfl, ((Below.refl _ _).alloc (Nat.le_refl _) _).alloc (by simp) _⟩
end Go.Proofs.Ytpcaaobninnkaaa
