/- The walks over summary.Size, summary.Blocks. -/
import Derived.Test.YtopjkpopdffkeaaDoorSumS
import Derived.Deep.DeepCutAuto
import Derived.Deep.QuietTactic
import Derived.BigQuiet
import Derived.Deep.DrawnRows
set_option linter.unusedVariables false
set_option linter.unusedSimpArgs false
namespace Go.Proofs.YtopjkpopdffkeaaDoor
open Go.RowKit
attribute [local go_sem ↓] Go.wp_at_zero Go.wp_at_succ

/-- A partial segment's value. -/
def partC (e c i p x : Int) (A1 : Option Addr) (n1 c1 : Nat) (A2 : Option Addr) (n2 c2 : Nat) : Array Value := #[.int .i64 e, .int .i64 c, .int .i64 i, .int .i64 p, .int .i64 x, .slice A1 n1 c1, .slice A2 n2 c2]
set_option maxRecDepth 100000 in
theorem size_any (e c i p x : Int) (A1 A2 : Option Addr) (n1 c1 n2 c2 lo base : Nat) (fs : List FI) (w : World) (h : FisAt lo base w A1 n1 fs) (hn : n1 ≤ 100000) (hn2 : n2 ≤ 100000) (hl : lsN fs ≤ 100000) :
    Calls Tryd.prog 12 #[.agg (partC e c i p x A1 n1 c1 A2 n2 c2)] w fun r w' => r = .returned (.int .i64 ((10 + n2 + (4 * n1 + 2 * lsN fs) : Nat) : Int)) ∧ Below w.heap.size w w' := by
  have H := hide h
  have HL := hide h.len
  clear h
  unfold partC
  go_enter Tryd.func12, Tryd.ntmps12
  go_wp2_with fail
  go_loopw [3, 13] (fun y z wr => ∃ j : Nat, j ≤ n1 ∧ z = .int .i64 (j : Int) ∧ y = .int .i64 ((10 + n2 + (4 * j + 2 * lsN (fs.take j)) : Nat) : Int) ∧ Below w.heap.size w wr) (fun _ z _ => n1 - (intOf z).toNat)
  case atStart => exact ⟨0, Nat.zero_le _, rfl, by simp [lsN, sumN], ((Below.refl _ _).alloc (Nat.le_refl _) _)⟩
  case round =>
    obtain ⟨j, hj, rfl, rfl, hb⟩ := hrel
    have Hb := hide hb
    clear hb
    by_cases hlt : j < n1
    · obtain ⟨b, off, f, A3, c3, hA, hF, hf, hi, q0, q1, q2⟩ := (H.out.below Hb.out).at hlt
      subst hA
      have HF := hide hf
      have hfl : Hid (f.ls.length ≤ 100000) := hide (Nat.le_trans (lsN_mem hf) hl)
      obtain ⟨m, hm⟩ : ∃ m, m = f.ls.length := ⟨_, rfl⟩
      rw [← hm] at q2 hfl
      have HM := hide hm
      have hm5 := hfl.out
      clear hf hi hF hm hfl
      have e1 := hide (lsN_take HF.out)
      have e2 := hide (lsN_le fs j)
      go_wp2_with fail
      go_roundw
      case rel =>
        refine ⟨j + 1, by omega, by go_num, ?_, Hb.out.alloc Hb.out.size _⟩
        have e1 := e1.out
        have e2 := e2.out
        have hm := HM.out
        rw [IntWalk.wrap64_in _ (by omega), e1]
        congr 1
        omega
      case measure => simp [intOf]; omega
    · have hjn : j = n1 := by omega
      subst hjn
      have e := List.take_of_length_le (Nat.le_of_eq HL.out)
      rw [e]
      go_wp2_with fail
      go_ret
      exact ⟨rfl, Hb.out⟩
set_option maxRecDepth 100000 in
theorem sblocks_any (e c i p x : Int) (A1 A2 : Option Addr) (n1 c1 n2 c2 lo base : Nat) (fs : List FI) (w : World) (h : FisAt lo base w A1 n1 fs) (hn : n1 ≤ 100000) (hn2 : n2 ≤ 100000) (hl : lsN fs ≤ 100000) :
    Calls Tryd.prog 8 #[.agg (partC e c i p x A1 n1 c1 A2 n2 c2)] w fun r w' => r = .returned (.int .i64 ((2 + n2 + lsN fs : Nat) : Int)) ∧ Below w.heap.size w w' := by
  have H := hide h
  have HL := hide h.len
  clear h
  unfold partC
  go_enter Tryd.func8, Tryd.ntmps8
  go_wp2_with fail
  go_loopw [3, 13] (fun y z wr => ∃ j : Nat, j ≤ n1 ∧ z = .int .i64 (j : Int) ∧ y = .int .i64 ((2 + n2 + lsN (fs.take j) : Nat) : Int) ∧ Below w.heap.size w wr) (fun _ z _ => n1 - (intOf z).toNat)
  case atStart => exact ⟨0, Nat.zero_le _, rfl, by simp [lsN, sumN], ((Below.refl _ _).alloc (Nat.le_refl _) _)⟩
  case round =>
    obtain ⟨j, hj, rfl, rfl, hb⟩ := hrel
    have Hb := hide hb
    clear hb
    by_cases hlt : j < n1
    · obtain ⟨b, off, f, A3, c3, hA, hF, hf, hi, q0, q1, q2⟩ := (H.out.below Hb.out).at hlt
      subst hA
      have HF := hide hf
      have hfl : Hid (f.ls.length ≤ 100000) := hide (Nat.le_trans (lsN_mem hf) hl)
      obtain ⟨m, hm⟩ : ∃ m, m = f.ls.length := ⟨_, rfl⟩
      rw [← hm] at q2 hfl
      have HM := hide hm
      have hm5 := hfl.out
      clear hf hi hF hm hfl
      have e1 := hide (lsN_take HF.out)
      have e2 := hide (lsN_le fs j)
      go_wp2_with fail
      go_roundw
      case rel =>
        refine ⟨j + 1, by omega, by go_num, ?_, Hb.out.alloc Hb.out.size _⟩
        have e1 := e1.out
        have e2 := e2.out
        have hm := HM.out
        rw [IntWalk.wrap64_in _ (by omega), e1]
        congr 1
        omega
      case measure => simp [intOf]; omega
    · have hjn : j = n1 := by omega
      subst hjn
      have e := List.take_of_length_le (Nat.le_of_eq HL.out)
      rw [e]
      go_wp2_with fail
      go_ret
      exact ⟨rfl, Hb.out⟩
end Go.Proofs.YtopjkpopdffkeaaDoor
