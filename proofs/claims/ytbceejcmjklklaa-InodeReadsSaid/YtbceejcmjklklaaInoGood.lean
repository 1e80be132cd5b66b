/- The walk over marlref05.Good. -/
import Derived.Test.YtbceejcmjklklaaInoW
namespace Go.Proofs.Ytbceejcmjklklaa
open Go.RowKit

set_option maxRecDepth 100000 in
set_option maxHeartbeats 1000000 in
theorem good_yes (a v k l s : Int) (p0 p1 p2 p3 p4 p5 p6 p7 p8 : Nat) (w : World) (h : InoP a v k l s) :
    Calls Try.prog 17 #[inoV a v k l s p0 p1 p2 p3 p4 p5 p6 p7 p8] w fun e w' => e = .returned (.bool true) ∧ Below w.heap.size w w' := by
  obtain ⟨⟨h1, h2⟩, ⟨h3, h4⟩, ⟨h5, h6⟩, ⟨h7, h8⟩, ⟨h9, h10⟩⟩ := h
  go_enter Try.func17, Try.ntmps17
  go_wp2
  go_ret
  exact ⟨by simp [h10], (Below.refl _ _).alloc (Nat.le_refl _) _⟩

theorem or_not {n lo hi : Int} (h : ¬ (lo ≤ n ∧ n ≤ hi)) : n < lo ∨ (lo ≤ n ∧ hi < n) := by omega
set_option maxRecDepth 100000 in
set_option maxHeartbeats 8000000 in
theorem good_no (a v k l s : Int) (p0 p1 p2 p3 p4 p5 p6 p7 p8 : Nat) (w : World) (h : ¬ InoP a v k l s) :
    Calls Try.prog 17 #[inoV a v k l s p0 p1 p2 p3 p4 p5 p6 p7 p8] w fun e w' => e = .returned (.bool false) ∧ Below w.heap.size w w' := by
  rcases ino_no h with g | ⟨⟨h1, h2⟩, g⟩ | ⟨⟨h1, h2⟩, ⟨h3, h4⟩, g⟩ | ⟨⟨h1, h2⟩, ⟨h3, h4⟩, ⟨h5, h6⟩, g⟩ | ⟨⟨h1, h2⟩, ⟨h3, h4⟩, ⟨h5, h6⟩, ⟨h7, h8⟩, g⟩
  all_goals rcases or_not g with g1 | ⟨g1, g2⟩
  all_goals
    clear h g
    go_enter Try.func17, Try.ntmps17
    go_wp2
    go_ret
    exact ⟨by first | rfl | (simp; omega), (Below.refl _ _).alloc (Nat.le_refl _) _⟩
end Go.Proofs.Ytbceejcmjklklaa
