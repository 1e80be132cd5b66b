/- The fixed fact of marllaw11. -/
import Derived.Test.YtbmblofhogihdaaImLawW
namespace Go.Proofs.Ytbmblofhogihdaa
open Go.RowKit

def b0 : Ent := ⟨0, 0, true⟩
def f1 : Ent := ⟨0, 1, false⟩
def b1 : Ent := ⟨0, 1, true⟩
set_option maxRecDepth 100000 in
set_option maxHeartbeats 1000000 in
theorem awake_any (w : World) : Calls Try.prog 7 #[] w fun e w' => e = .returned (.bool true) ∧ Below w.heap.size w w' := by
  have n1 : ∀ i (x : Ent), (fresh 4)[i]? = some x → 1 ≤ i → i < 1 → x.gives = false := by intros; omega
  go_enter Try.func7, Try.ntmps7
  go_wp2_with fail
  refine (im_new w _ (Below.refl _ _) 4 (by omega) (by omega)).mono ?_
  rintro e w1 ⟨m, rfl, h1⟩
  have H1 := hide h1
  clear h1
  go_wp2_with fail
  refine (im_alloc H1.out 1 noEnt rfl (by omega) rfl (by intros; omega) [noEnt, b0, noEnt, noEnt] rfl).mono ?_
  rintro e w2 ⟨rfl, h2⟩
  have H2 := hide h2
  clear h2
  go_wp2_with fail
  refine (im_alloc H2.out 2 noEnt rfl (by omega) rfl (by
    intro i x hx h1 h2
    obtain rfl : i = 1 := by omega
    injection hx with hx
    subst hx
    rfl) [noEnt, b0, b0, noEnt] rfl).mono ?_
  rintro e w3 ⟨rfl, h3⟩
  have H3 := hide h3
  clear h3
  go_wp2_with fail
  refine (im_free H3.out 1 b0 rfl (by omega) rfl (by decide) [noEnt, f1, b0, noEnt] rfl).mono ?_
  rintro e w4 ⟨rfl, h4⟩
  have H4 := hide h4
  clear h4
  go_wp2_with fail
  refine (im_alloc H4.out 1 f1 rfl (by omega) rfl (by intros; omega) [noEnt, b1, b0, noEnt] rfl).mono ?_
  rintro e w5 ⟨rfl, h5⟩
  have H5 := hide h5
  clear h5
  go_wp2_with fail
  refine (im_alloc H5.out 3 noEnt rfl (by omega) rfl (by
    intro i x hx h1 h2
    have : i = 1 ∨ i = 2 := by omega
    rcases this with rfl | rfl <;> (injection hx with hx; subst hx; rfl)) [noEnt, b1, b0, b0] rfl).mono ?_
  rintro e w6 ⟨rfl, h6⟩
  have H6 := hide h6
  clear h6
  go_wp2_with fail
  refine (im_alloc_none H6.out (by
    intro i x hx h1
    have hl : i < 4 := (List.getElem?_eq_some_iff.1 hx).1
    have : i = 1 ∨ i = 2 ∨ i = 3 := by omega
    rcases this with rfl | rfl | rfl <;> (injection hx with hx; subst hx; rfl))).mono ?_
  rintro e w' ⟨rfl, rfl⟩
  clear n1
  go_wp2_with fail
  go_ret
  exact ⟨rfl, H6.out.bel⟩
end Go.Proofs.Ytbmblofhogihdaa
