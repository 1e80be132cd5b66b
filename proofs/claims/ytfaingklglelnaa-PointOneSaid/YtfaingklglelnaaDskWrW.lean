/- The walk over disk.Write. -/
import Derived.Test.YtfaingklglelnaaDskApW
namespace Go.Proofs.Ytfaingklglelnaa
open Go.RowKit

theorem write_no (w : World) (base d s : Nat) (v : Value) (D : Dsk) (i : Int) (B : Option Addr) (n c : Nat) (h : DskA w base d s v D) (hi : ¬ (0 ≤ i ∧ i < D.sure.length) ∨ n ≠ 64) (hnl : n ≤ 9223372036854775807) :
    Calls Try.prog 31 #[.pointer (some ⟨d, 0, none⟩), .int .i64 i, .slice B n c] w fun e w' => e = .returned (.int .i64 22) ∧ w = w' := by
  obtain ⟨c0, c1, c2, c3, f1, f2, f3⟩ := dsk_cells h
  clear h
  by_cases h1 : i < 0
  · clear hi
    go_enter Try.func31, Try.ntmps31
    go_wp2
    go_ret
    exact ⟨rfl, rfl⟩
  · by_cases h2 : (D.sure.length : Int) ≤ i
    · clear hi
      go_enter Try.func31, Try.ntmps31
      go_wp2
      go_ret
      exact ⟨rfl, rfl⟩
    · have h3 : ¬ (n : Int) = 64 := by omega
      clear hi
      go_enter Try.func31, Try.ntmps31
      go_wp2
      go_ret
      exact ⟨rfl, rfl⟩
theorem write_dead (w : World) (base d s : Nat) (v : Value) (D : Dsk) (i : Nat) (B : Option Addr) (c : Nat) (h : DskA w base d s v D) (hi : i < D.sure.length) (hl : D.left = 0) :
    Calls Try.prog 31 #[.pointer (some ⟨d, 0, none⟩), .int .i64 (i : Int), .slice B 64 c] w fun e w' => e = .returned (.int .i64 102) ∧ w = w' := by
  obtain ⟨c0, c1, c2, c3, f1, f2, f3⟩ := dsk_cells h
  have H := hide h
  have hn := h.ok.n
  clear h
  go_enter Try.func31, Try.ntmps31
  go_wp2_with fail
  refine (step_dead w base d s v D H.out hl).mono ?_
  rintro e w1 ⟨rfl, rfl⟩
  go_wp2_with fail
  go_ret
  exact ⟨rfl, rfl⟩
end Go.Proofs.Ytfaingklglelnaa
