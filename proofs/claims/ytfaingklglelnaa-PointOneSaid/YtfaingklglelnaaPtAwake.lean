/- The walk over marllaw17's awake: a fixed fact. -/
import Derived.Test.YtfaingklglelnaaPtSavW
namespace Go.Proofs.Ytfaingklglelnaa
open Go.RowKit
attribute [local go_sem ↓] Go.wp_at_zero Go.wp_at_succ

def aw1 : Dsk := (saveP (freshD 4) ⟨1, 0, 3, 3⟩).2
def aw2 : Dsk := (saveP aw1 ⟨1, 1, 0, 0⟩).2
def aw3 : Dsk := (saveP aw2 ⟨2, 0, 2, 0⟩).2
def aw4 : Dsk := (saveP aw3 ⟨1, 9, 0, 0⟩).2
theorem aw_1 : (saveP (freshD 4) ⟨1, 0, 3, 3⟩).1 = 0 := by kernel_rfl
theorem aw_2 : (saveP aw1 ⟨1, 1, 0, 0⟩).1 = 0 := by kernel_rfl
theorem aw_3 : (saveP aw2 ⟨2, 0, 2, 0⟩).1 = 0 := by kernel_rfl
theorem aw_4 : (saveP aw3 ⟨1, 9, 0, 0⟩).1 = 103 := by kernel_rfl
theorem aw_5 : countsP aw4 = (1, ⟨2, 0, 2, 0⟩) := by kernel_rfl
theorem aw_s0 : (freshD 4).steps = 0 ∧ (freshD 4).queue.length = 0 := ⟨rfl, rfl⟩
set_option maxHeartbeats 2000000 in
theorem awake17 (w : World) : Calls Try.prog 9 #[] w fun e w' => e = .returned (.bool true) ∧ Below w.heap.size w w' := by
  go_enter Try.func9, Try.ntmps9
  go_wp2_with fail
  refine (ld_new w 4 (by decide) (by decide)).mono ?_
  rintro e w1 ⟨d, rfl, h1⟩
  have H1 := hide (Stp.refl h1)
  clear h1
  go_wp2_with fail
  have p1 := saveP_steps (freshD 4) ⟨1, 0, 3, 3⟩
  refine (save_yes w w1 d _ H1.out.ld ⟨1, 0, 3, 3⟩ (by decide) (by have := aw_s0; omega) (by have := aw_s0; omega)).mono ?_
  rintro e w2 ⟨rfl, h2⟩
  rw [aw_1]
  replace H1 := hide (H1.out.trans h2)
  have P1 := hide p1
  clear h2 p1
  go_wp2_with fail
  have p2 := saveP_steps aw1 ⟨1, 1, 0, 0⟩
  refine (save_yes w w2 d aw1 H1.out.ld ⟨1, 1, 0, 0⟩ (by decide) (by have := aw_s0; have := P1.out; unfold aw1; omega) (by have := aw_s0; have := P1.out; unfold aw1; omega)).mono ?_
  rintro e w3 ⟨rfl, h2⟩
  rw [aw_2]
  replace H1 := hide (H1.out.trans h2)
  have P2 := hide p2
  clear h2 p2
  go_wp2_with fail
  have p3 := saveP_steps aw2 ⟨2, 0, 2, 0⟩
  refine (save_yes w w3 d aw2 H1.out.ld ⟨2, 0, 2, 0⟩ (by decide) (by have := aw_s0; have := P1.out; have := P2.out; unfold aw2; unfold aw1 at *; omega) (by have := aw_s0; have := P1.out; have := P2.out; unfold aw2; unfold aw1 at *; omega)).mono ?_
  rintro e w4 ⟨rfl, h2⟩
  rw [aw_3]
  replace H1 := hide (H1.out.trans h2)
  have P3 := hide p3
  clear h2 p3
  go_wp2_with fail
  refine (save_yes w w4 d aw3 H1.out.ld ⟨1, 9, 0, 0⟩ (by decide) (by have := aw_s0; have := P1.out; have := P2.out; have := P3.out; unfold aw3; unfold aw2 aw1 at *; omega) (by have := aw_s0; have := P1.out; have := P2.out; have := P3.out; unfold aw3; unfold aw2 aw1 at *; omega)).mono ?_
  rintro e w5 ⟨rfl, h2⟩
  rw [aw_4]
  replace H1 := hide (H1.out.trans h2)
  clear h2 P1 P2 P3
  go_wp2_with fail
  refine (load_any w w5 d aw4 H1.out.ld).mono ?_
  rintro e w6 ⟨rfl, hb⟩
  rw [aw_5]
  have B := hide (H1.out.ld.bel.trans (hb.mono H1.out.ld.bel.size))
  clear hb H1
  go_wp2_with fail
  go_ret
  exact ⟨rfl, B.out.alloc B.out.size _⟩
end Go.Proofs.Ytfaingklglelnaa
