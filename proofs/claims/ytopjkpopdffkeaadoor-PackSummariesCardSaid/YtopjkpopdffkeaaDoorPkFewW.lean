/- The walk over marllaw13's few. -/
import Derived.Test.YtopjkpopdffkeaaDoorPkPlanW
set_option linter.unusedVariables false
set_option linter.unusedSimpArgs false
namespace Go.Proofs.YtopjkpopdffkeaaDoor
open Go.RowKit
attribute [local go_sem ↓] Go.wp_at_zero Go.wp_at_succ

/-- What is soon gone through. -/
def fewP (files : List FI) (inos : List Int) : Prop := files.length ≤ 300 ∧ inos.length + lsN files ≤ 300
instance (files : List FI) (inos : List Int) : Decidable (fewP files inos) := by unfold fewP; infer_instance
set_option maxRecDepth 100000 in
set_option maxHeartbeats 1000000 in
theorem few_any (A A' : Option Addr) (m c m' c' lo base lo' base' : Nat) (files : List FI) (inos : List Int) (w : World) (hf : FisAt lo base w A m files) (hi : IntsAt lo' base' w A' m' inos) (hm63 : m ≤ 9223372036854775807) (hm63' : m' ≤ 9223372036854775807) (hls : ∀ f ∈ files, f.ls.length ≤ 9223372036854775807) :
    Calls Tryd.prog 5 #[.slice A m c, .slice A' m' c'] w fun e w' => e = .returned (.bool (decide (fewP files inos))) ∧ Below w.heap.size w w' := by
  have HFL := hf.len
  have HIL := IntsAt.len hi
  have hfe : ∀ b : Bool, (fewP files inos ↔ b = true) → decide (fewP files inos) = b := fun b hb => by
    cases b with
    | true => exact decide_eq_true (hb.2 rfl)
    | false => exact decide_eq_false (fun h => by have := hb.1 h; cases this)
  have HE := hide hfe
  have HF := hide hf
  have HI := hide hi
  have HLS := hide hls
  clear hfe hf hi hls
  by_cases h1 : 300 < m
  · go_enter Tryd.func5, Tryd.ntmps5
    go_wp2_with fail
    go_ret
    exact ⟨by rw [HE.out false ⟨fun h => by unfold fewP at h; omega, fun h => by cases h⟩]; rfl, Below.refl _ _⟩
  · by_cases h2 : 300 < m'
    · go_enter Tryd.func5, Tryd.ntmps5
      go_wp2_with fail
      go_ret
      exact ⟨by rw [HE.out false ⟨fun h => by unfold fewP at h; omega, fun h => by cases h⟩]; rfl, Below.refl _ _⟩
    · go_enter Tryd.func5, Tryd.ntmps5
      go_wp2_with fail
      go_loopw [5, 19] (fun x y wr => ∃ j : Nat, j ≤ m ∧ y = .int .i64 (j : Int) ∧ x = .int .i64 ((m' + lsN (files.take j) : Nat) : Int) ∧ m' + lsN (files.take j) ≤ 300 ∧ Below w.heap.size w wr) (fun _ y _ => m - (intOf y).toNat)
      case atStart => exact ⟨0, Nat.zero_le _, rfl, by simp [lsN, sumN], by simp [lsN, sumN]; omega, Below.refl _ _⟩
      case round =>
        obtain ⟨j, hj, rfl, rfl, hle, hb⟩ := hrel
        have Hb := hide hb
        clear hb
        by_cases hlt : j < m
        · obtain ⟨b, off, f, A1, c1, hA, hFr, hfi, hI1, q0, q1, q2⟩ := (HF.out.below Hb.out).at hlt
          subst hA
          have HFI := hide hfi
          have hf63 : f.ls.length ≤ 9223372036854775807 := HLS.out f (List.mem_of_getElem? hfi)
          have e1 := hide (lsN_take hfi)
          have e2 := hide (lsN_le files (j + 1))
          obtain ⟨x, hx⟩ : ∃ x, x = lsN (files.take j) := ⟨_, rfl⟩
          rw [← hx] at hle
          have HX := hide hx
          obtain ⟨mf, hmf⟩ : ∃ x, x = f.ls.length := ⟨_, rfl⟩
          rw [← hmf] at q2 hf63
          have HM := hide hmf
          rw [← hx]
          clear hfi hI1 hFr hmf hx
          by_cases h3 : 300 - (m' + x) < mf
          · go_wp2_with fail
            go_ret
            have hno : ¬ fewP files inos := fun h => by
              have h9 := h.2
              have := e1.out
              have := e2.out
              have := HM.out
              have := HX.out
              rw [HIL] at h9
              omega
            exact ⟨by rw [HE.out false ⟨fun h => absurd h hno, fun h => by cases h⟩]; rfl, Hb.out⟩
          · go_wp2_with fail
            go_roundw
            case rel =>
              have hv : m' + lsN (files.take (j + 1)) = m' + x + mf := by rw [e1.out, ← HX.out, ← HM.out]; omega
              exact ⟨j + 1, by omega, by go_num, by rw [hv]; exact congrArg (Value.int IntKind.i64) (by omega), by rw [hv]; omega, Hb.out⟩
            case measure => simp [intOf]; omega
        · have hjn : j = m := by omega
          have hle2 := hide hle
          go_wp2_with fail
          go_ret
          have hyes : fewP files inos := ⟨by omega, by
            have := hle2.out
            rw [hjn, ← HFL, List.take_length] at this
            rw [HIL]
            exact this⟩
          exact ⟨by rw [HE.out true ⟨fun _ => rfl, fun _ => hyes⟩]; rfl, Hb.out⟩
end Go.Proofs.YtopjkpopdffkeaaDoor
