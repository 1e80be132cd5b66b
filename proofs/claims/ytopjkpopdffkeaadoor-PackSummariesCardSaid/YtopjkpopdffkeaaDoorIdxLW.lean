/- The walks over package index: Level, Covers. -/
import Derived.Test.YtopjkpopdffkeaaDoorIdxFW
set_option linter.unusedVariables false
set_option linter.unusedSimpArgs false
namespace Go.Proofs.YtopjkpopdffkeaaDoor
open Go.RowKit
attribute [local go_sem ↓] Go.wp_at_zero Go.wp_at_succ

/-- An integer that a Go int may be. -/
abbrev I64 (n : Int) : Prop := -9223372036854775808 ≤ n ∧ n ≤ 9223372036854775807
theorem found_none {n : Int} (h : findP n = none) (a b : Int) : Found n (.returned (.tuple #[.int .i64 a, .int .i64 b, .bool false])) := by
  unfold Found; rw [h]; exact ⟨a, b, rfl⟩
theorem find_any (n : Int) (hn : I64 n) (w : World) (sp : SpanAt w) : Calls Tryd.prog 23 #[.int .i64 n] w fun e w' => Found n e ∧ Below w.heap.size w w' := by
  obtain ⟨h1, h2⟩ := hn
  by_cases h0 : 0 ≤ n
  · refine (find_pos n h0 w).mono ?_
    rintro e w' ⟨rfl, rfl⟩
    refine ⟨?_, Below.refl _ _⟩
    by_cases h6 : n < 600
    · rw [decide_eq_true h6]
      have e : findP n = some (0, n.toNat) := by unfold findP; rw [if_pos h0, if_pos h6]
      unfold Found
      rw [e]
      show _ = Ending.returned (.tuple #[.int .i64 0, .int .i64 (n.toNat : Int), .bool true])
      rw [Int.toNat_of_nonneg h0]
    · rw [decide_eq_false h6]
      exact found_none (by unfold findP; rw [if_pos h0, if_neg h6]) _ _
  · by_cases h3 : -605 ≤ n
    · exact find_near n (by omega) h3 w sp
    · by_cases h4 : n = -9223372036854775808
      · subst h4
        refine (find_min w).mono ?_
        rintro e w' ⟨rfl, hb⟩
        exact ⟨found_none (findP_out _ (by omega)) _ _, hb⟩
      · refine (find_neg_far n (by omega) (by omega) w).mono ?_
        rintro e w' ⟨rfl, hb⟩
        exact ⟨found_none (findP_out _ (by omega)) _ _, hb⟩
theorem find_yes (n : Int) (hn : I64 n) {l f : Nat} (h : findP n = some (l, f)) (w : World) (sp : SpanAt w) : Calls Tryd.prog 23 #[.int .i64 n] w fun e w' => e = .returned (.tuple #[.int .i64 (l : Int), .int .i64 (f : Int), .bool true]) ∧ Below w.heap.size w w' :=
  (find_any n hn w sp).mono fun e w' ⟨hf, hb⟩ => ⟨by unfold Found at hf; rw [h] at hf; exact hf, hb⟩
theorem find_no (n : Int) (hn : I64 n) (h : findP n = none) (w : World) (sp : SpanAt w) : Calls Tryd.prog 23 #[.int .i64 n] w fun e w' => (∃ a b : Int, e = .returned (.tuple #[.int .i64 a, .int .i64 b, .bool false])) ∧ Below w.heap.size w w' :=
  (find_any n hn w sp).mono fun e w' ⟨hf, hb⟩ => ⟨by unfold Found at hf; rw [h] at hf; exact hf, hb⟩
theorem level_yes (n : Int) (hn : I64 n) {l f : Nat} (h : findP n = some (l, f)) (w : World) (sp : SpanAt w) : Calls Tryd.prog 18 #[.int .i64 n] w fun e w' => e = .returned (.tuple #[.int .i64 (l : Int), .int .i64 0]) ∧ Below w.heap.size w w' := by
  have C := hide (find_yes n hn h w sp)
  clear h hn sp
  go_enter Tryd.func18, Tryd.ntmps18
  go_wp2_with fail
  refine C.out.mono ?_
  rintro e w' ⟨rfl, hb⟩
  have B := hide hb
  clear hb
  go_wp2_with fail
  go_ret2
  exact ⟨rfl, B.out⟩
theorem level_no (n : Int) (hn : I64 n) (h : findP n = none) (w : World) (sp : SpanAt w) : Calls Tryd.prog 18 #[.int .i64 n] w fun e w' => e = .returned (.tuple #[.int .i64 0, .int .i64 22]) ∧ Below w.heap.size w w' := by
  have C := hide (find_no n hn h w sp)
  clear h hn sp
  go_enter Tryd.func18, Tryd.ntmps18
  go_wp2_with fail
  refine C.out.mono ?_
  rintro e w' ⟨⟨a, b, rfl⟩, hb⟩
  have B := hide hb
  clear hb
  go_wp2_with fail
  go_ret2
  exact ⟨rfl, B.out⟩
theorem many_min (l f : Nat) : (manyN l f : Int) = min (pw l : Int) ((600 : Int) - f) ∨ 600 < f := by
  unfold manyN pw; omega
end Go.Proofs.YtopjkpopdffkeaaDoor
