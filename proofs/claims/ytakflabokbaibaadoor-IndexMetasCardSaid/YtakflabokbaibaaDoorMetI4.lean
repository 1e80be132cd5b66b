/- The walk over IndexMetas. -/
import Derived.Test.YtakflabokbaibaaDoorMetR
import Derived.Test.YtakflabokbaibaaDoorAw04
set_option linter.unusedVariables false
set_option linter.unusedSimpArgs false
namespace Go.Proofs.YtakflabokbaibaaDoor
open Go.RowKit
attribute [local go_sem ↓] Go.wp_at_zero Go.wp_at_succ

theorem nrow_none {w : World} {B : Nat} : NRow w B none 0 [] := ⟨rfl, .inl ⟨rfl, rfl⟩⟩
theorem metas_both (a b : Int) : ∃ (L : List Int) (code : Int), L.length ≤ 1800 ∧ (∀ w, SpanAt w → Calls Tryd.prog 11 #[.int .i64 a, .int .i64 b] w fun e w' => ∃ A n, e = .returned (.tuple #[.slice A n n, .int .i64 code]) ∧ NRow w' w.heap.size A n L ∧ Below w.heap.size w w') ∧
    (∀ w, Calls Tryd.prog 12 #[.int .i64 a, .int .i64 b] w fun e w' => ∃ A n c, e = .returned (.tuple #[.slice A n c, .int .i64 code]) ∧ NRow w' w.heap.size A n L ∧ Below w.heap.size w w') := by
  by_cases h : 0 ≤ a ∧ a ≤ b ∧ b ≤ 600
  · obtain ⟨x, rfl⟩ : ∃ x : Nat, a = (x : Int) := ⟨a.toNat, by omega⟩
    obtain ⟨y, rfl⟩ : ∃ y : Nat, b = (y : Int) := ⟨b.toNat, by omega⟩
    have hxy : x ≤ y := by omega
    have hy : y ≤ 600 := by omega
    refine ⟨metasN x (y - x), 0, Nat.le_trans (metasN_len _ _) (by omega), fun w sp => metas_yes x y hxy hy w sp, fun w => (metasRef_yes x y hxy hy w).mono ?_⟩
    rintro e w' ⟨A, n, c, he, hr, -, hb⟩
    rw [metas_agree hxy hy] at hr
    exact ⟨A, n, c, he, hr, hb⟩
  · refine ⟨[], 22, by simp, fun w _ => (metas_no a b h w).mono ?_, fun w => (metasRef_no a b h w).mono ?_⟩
    · rintro e w' ⟨rfl, rfl⟩
      exact ⟨none, 0, rfl, nrow_none, Below.refl _ _⟩
    · rintro e w' ⟨rfl, rfl⟩
      exact ⟨none, 0, 0, rfl, nrow_none, Below.refl _ _⟩
set_option maxHeartbeats 1000000 in
set_option maxRecDepth 100000 in
theorem metas_law (a b : Int) (w : World) (sp : SpanAt w) : Calls Tryd.prog 3 #[.int .i64 a, .int .i64 b] w fun e w' => e = .returned (.bool true) ∧ Below w.heap.size w w' := by
  have SP := hide sp
  clear sp
  obtain ⟨L, code, hL, c1, c2⟩ := metas_both a b
  have C1 := hide c1
  have C2 := hide c2
  have hd : (code == code) = true := by simp
  clear c1 c2
  go_enter Tryd.func3, Tryd.ntmps3
  go_wp2_with fail
  refine (awake04 w SP.out).mono ?_
  rintro e w1 ⟨rfl, hb1⟩
  have B1 := hide hb1
  clear hb1
  go_wp2_with fail
  refine (C1.out w1 (SP.out.bel B1.out)).mono ?_
  rintro e w2 ⟨A, n, rfl, hn, hb2⟩
  have R1 := hide hn
  have B2 := hide (B1.out.trans (hb2.mono B1.out.size))
  clear hb2 hn
  go_wp2_with fail
  refine (C2.out w2).mono ?_
  rintro e w3 ⟨A2, n2, c2, rfl, hn2, hb3⟩
  have hln : n ≤ 1800 := by rw [← R1.out.1]; exact hL
  have hln2 : n2 ≤ 1800 := by rw [← hn2.1]; exact hL
  have hlo := hide (R1.out.lt)
  have R3 := hide (R1.out.below hb3)
  have R4 := hide hn2
  have B3 := hide (B2.out.trans (hb3.mono B2.out.size))
  clear hb3 hn2 R1
  go_wp2_with fail
  refine (ints_any A A2 n n2 n c2 w3.heap.size w3.heap.size L L w3 (sl_of_nrow R3.out) (sl_of_nrow R4.out) (Nat.le_refl _) (Nat.le_refl _) (by omega) (by omega)).mono ?_
  rintro e w4 ⟨rfl, hb4⟩
  have R5 := hide (R3.out.below hb4)
  have R6 := hide (R4.out.below hb4)
  have B4 := hide (B3.out.trans (hb4.mono B3.out.size))
  clear hb4 R3 R4 
  go_wp2_with fail
  go_loopw [37] (fun x wr => ∃ (j : Nat) (L' : List Int), j ≤ n ∧ x = .int .i64 (j : Int) ∧ NRow wr w1.heap.size A n L' ∧ NRow wr w2.heap.size A2 n2 L ∧ Below w.heap.size w wr) (fun x _ => n - (intOf x).toNat)
  case atStart => exact ⟨0, L, Nat.zero_le _, rfl, R5.out, R6.out, B4.out⟩
  case round =>
    obtain ⟨j, L', hj, rfl, h1, h2, h3⟩ := hrel
    have H1 := hide h1
    have H2 := hide h2
    have H3 := hide h3
    clear h1 h2 h3
    by_cases hlt : j < n
    · obtain ⟨g, x, hx, rfl, hg1, hg2, hc, hf, hset⟩ := H1.out.at hlt
      have HS := hide hset
      have hgl := (hlo.out g rfl).2
      have hn2g : ∀ g2, (Value.slice A2 0 0).ownBlock = some g2 → g2 ∉ [g] := fun g2 e => by
        have := (H2.out.lt g2 e).1
        simp; omega
      have HN := hide hn2g
      have hgw : w.heap.size ≤ g := Nat.le_trans B1.out.size hg1
      have HG := hide hgw
      clear hset hx hg1 hgl hn2g hgw
      go_wp2_with fail
      go_roundw
      case rel => exact ⟨j + 1, _, by omega, by go_num, HS.out _, H2.out.kp ((Kp.refl [g] wr).set (p := ⟨g, j, none⟩) (.inl (by simp)) _) HN.out, H3.out.setCell (p := ⟨g, j, none⟩) HG.out _⟩
      case measure => simp [intOf]; omega
    · go_wp2_with fail
      refine (C1.out wr (SP.out.bel H3.out)).mono ?_
      rintro e w5 ⟨A5, n5, rfl, hn5, hb5⟩
      have hln5 : n5 ≤ 1800 := by rw [← hn5.1]; exact hL
      have R7 := hide hn5
      have R8 := hide (H2.out.below hb5)
      have B5 := hide (H3.out.trans (hb5.mono H3.out.size))
      clear hn5 hb5
      go_wp2_with fail
      refine (ints_any A5 A2 n5 n2 n5 c2 w5.heap.size w5.heap.size L L w5 (sl_of_nrow R7.out) (sl_of_nrow R8.out) (Nat.le_refl _) (Nat.le_refl _) (by omega) (by omega)).mono ?_
      rintro e w6 ⟨rfl, hb6⟩
      have B6 := hide (B5.out.trans (hb6.mono B5.out.size))
      clear hb6
      go_wp2_with fail
      go_ret
      exact ⟨rfl, B6.out⟩
end Go.Proofs.YtakflabokbaibaaDoor
