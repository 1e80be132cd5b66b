/- The walk over the reference's Many. -/
import Derived.Test.YtakflabokbaibaaDoorAlW4
set_option linter.unusedVariables false
set_option linter.unusedSimpArgs false
namespace Go.Proofs.YtakflabokbaibaaDoor
open Go.RowKit
attribute [local go_sem ↓] Go.wp_at_zero Go.wp_at_succ

theorem many_any (n r : Int) (l f : Nat) (hl : l ≤ 3) (hf : f < 600) (A1 A2 : Option Addr) (n1 c1 n2 c2 : Nat) (w : World) : Calls Tryd.prog 21 #[.agg #[.int .i64 n, .int .i64 (l : Int), .int .i64 (f : Int), .int .i64 r, .slice A1 n1 c1, .slice A2 n2 c2]] w fun e w' => e = .returned (.int .i64 (manyN l f : Int)) ∧ Below w.heap.size w w' := by
  have W := hide (fun w => width_any l hl w)
  have hp : 1 ≤ 16 ^ l ∧ 16 ^ l ≤ 4096 := ⟨Nat.one_le_pow _ _ (by omega), Nat.le_trans (Nat.pow_le_pow_right (by decide) hl) (by decide)⟩
  have HM : Hid (manyN l f = min (16 ^ l) (600 - f)) := hide rfl
  obtain ⟨q, hq⟩ : ∃ q, q = 16 ^ l := ⟨_, rfl⟩
  rw [← hq] at W hp HM
  obtain ⟨fq, hfq⟩ : ∃ fq, fq = f + q := ⟨_, rfl⟩
  have hw : IntKind.i64.wrap ((f : Int) + (q : Int)) = (fq : Int) := by rw [IntKind.wrap_i64]; omega
  have hw2 : IntKind.i64.wrap (600 - (f : Int)) = ((600 - f : Nat) : Int) := by rw [IntKind.wrap_i64]; omega
  obtain ⟨d, hd⟩ : ∃ d, d = 600 - f := ⟨_, rfl⟩
  rw [← hd] at hw2
  have HQ := hide hfq
  have HD := hide hd
  have HP := hide hp
  clear hq hfq hd hp
  by_cases h6 : 600 < fq
  · have h6' : (600 : Int) < (fq : Int) := by omega
    have HR : Hid (d = manyN l f) := hide (by rw [HM.out]; have := HQ.out; have := HD.out; omega)
    go_enter Tryd.func21, Tryd.ntmps21
    go_wp2_with fail
    refine (W.out _).mono ?_
    rintro e w1 ⟨rfl, rfl⟩
    go_wp2_with fail
    go_ret
    exact ⟨by rw [← HR.out]; rfl, (Below.refl _ _).alloc (Nat.le_refl _) _⟩
  · have h6' : ¬ (600 : Int) < (fq : Int) := by omega
    have HR : Hid (q = manyN l f) := hide (by rw [HM.out]; have := HQ.out; omega)
    go_enter Tryd.func21, Tryd.ntmps21
    go_wp2_with fail
    refine (W.out _).mono ?_
    rintro e w1 ⟨rfl, rfl⟩
    go_wp2_with fail
    go_ret
    exact ⟨by rw [← HR.out]; rfl, (Below.refl _ _).alloc (Nat.le_refl _) _⟩
end Go.Proofs.YtakflabokbaibaaDoor
