/- The walk over the reference's All. -/
import Derived.Test.YtakflabokbaibaaDoorBelW
set_option linter.unusedVariables false
set_option linter.unusedSimpArgs false
namespace Go.Proofs.YtakflabokbaibaaDoor
open Go.RowKit
attribute [local go_sem ↓] Go.wp_at_zero Go.wp_at_succ

theorem rdI_nil {w : World} : RdI w none 0 [] := ⟨rfl, .inl ⟨rfl, rfl⟩⟩
set_option maxHeartbeats 1000000 in
theorem all_any (w : World) : Calls Tryd.prog 25 #[] w fun e w' => ∃ A n c, e = .returned (.slice A n c) ∧ MRow w' w.heap.size A n c allR ∧ n ≤ 10000 ∧ Below w.heap.size w w' := by
  go_enter Tryd.func25, Tryd.ntmps25
  go_wp2_with fail
  refine (below_any 1 (by omega) 6 ⟨6, [], []⟩ none 0 none 0 w (by omega) (by decide) (by decide) (by decide) rdI_nil rdI_nil).mono ?_
  rintro e w1 ⟨A1, n1, c1, rfl, h1, hb1⟩
  have M1 := hide h1
  have B1 := hide hb1
  have l1 := belowR_len 1 6 ⟨6, [], []⟩
  rw [h1.len] at l1
  clear h1 hb1
  go_wp2_with fail
  refine (below_any 2 (by omega) 22 ⟨7, [], []⟩ none 0 none 0 w1 (by omega) (by decide) (by decide) (by decide) rdI_nil rdI_nil).mono ?_
  rintro e w2 ⟨A2, n2, c2, rfl, h2, hb2⟩
  have l2 := belowR_len 2 22 ⟨7, [], []⟩
  rw [h2.len] at l2
  have h1 := M1.out.below hb2
  have hs1 := Nat.le_trans B1.out.size hb2.size
  obtain ⟨xs1, ho1⟩ := h1.own
  have hk := fun g (e : (Value.slice A1 n1 c1).ownBlock = some g) => (ho1.lt g e).1
  have HB := hide (B1.out.trans (hb2.mono B1.out.size))
  have H1 := hide h1
  have H2 := hide h2
  have HK := hide hk
  have HS1 := hide hs1
  clear h1 h2 hb2 M1 B1 hk hs1 ho1
  go_wp2_with (at_builtin; refine wpList_mapp rfl (.tmp 4) (.tmp 6) rfl w.heap.size _ A1 A2 n1 c1 n2 c2 _ _ rfl rfl H1.out H2.out HS1.out (by omega) ?_; intro A3 c3 w3 h3 hg3; have M3 := hide h3; have B3 := hide (bel_gr HB.out hg3 HK.out HS1.out); clear h3 hg3)
  refine (below_any 3 (by omega) 278 ⟨8, [], []⟩ none 0 none 0 w3 (by omega) (by decide) (by decide) (by decide) rdI_nil rdI_nil).mono ?_
  rintro e w4 ⟨A4, n4, c4, rfl, h4, hb4⟩
  have l4 := belowR_len 3 278 ⟨8, [], []⟩
  rw [h4.len] at l4
  have h5 := M3.out.below hb4
  have hs1 := Nat.le_trans B3.out.size hb4.size
  obtain ⟨xs3, ho3⟩ := h5.own
  have hk := fun g (e : (Value.slice A3 (n1 + n2) c3).ownBlock = some g) => (ho3.lt g e).1
  have HB4 := hide (B3.out.trans (hb4.mono B3.out.size))
  have H5 := hide h5
  have H4 := hide h4
  have HK4 := hide hk
  have HS4 := hide hs1
  clear h5 h4 hb4 M3 B3 hk hs1 ho3 HB H1 H2 HK HS1
  go_wp2_with (at_builtin; refine wpList_mapp rfl (.tmp 8) (.tmp 10) rfl w.heap.size _ A3 A4 (n1 + n2) c3 n4 c4 _ _ rfl rfl H5.out H4.out HS4.out (by omega) ?_; intro A5 c5 w5 h6 hg6; have M5 := hide h6; have B5 := hide (bel_gr HB4.out hg6 HK4.out HS4.out); clear h6 hg6)
  go_ret
  exact ⟨A5, n1 + n2 + n4, c5, rfl, M5.out, by omega, B5.out⟩
end Go.Proofs.YtakflabokbaibaaDoor
