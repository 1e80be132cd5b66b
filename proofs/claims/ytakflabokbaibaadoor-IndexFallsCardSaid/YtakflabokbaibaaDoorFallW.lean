/- The walk over IndexFalls. -/
import Derived.Test.YtakflabokbaibaaDoorFallS
import Derived.Test.YtakflabokbaibaaDoorAw04
set_option linter.unusedVariables false
set_option linter.unusedSimpArgs false
namespace Go.Proofs.YtakflabokbaibaaDoor
open Go.RowKit
attribute [local go_sem ↓] Go.wp_at_zero Go.wp_at_succ

theorem i64s {n : Int} (h : -605 ≤ n ∧ n ≤ 605) : I64 n := ⟨by omega, by omega⟩
set_option maxHeartbeats 1000000 in
theorem falls_no1 (a b : Int) (ha : I64 a) (hb : I64 b) (hp : parentP a = none) (w : World) (sp : SpanAt w) : Calls Tryd.prog 8 #[.int .i64 a, .int .i64 b] w fun e w' => e = .returned (.bool true) ∧ Below w.heap.size w w' := by
  have SP := hide sp
  have HA := hide ha
  have HB := hide hb
  clear sp ha hb
  go_enter Tryd.func8, Tryd.ntmps8
  go_wp2_with fail
  refine (awake04 w SP.out).mono ?_
  rintro e w1 ⟨rfl, hb1⟩
  go_wp2_with fail
  refine (parent_none a HA.out hp w1 (SP.out.bel hb1)).mono ?_
  rintro e w2 ⟨rfl, hb2⟩
  have B2 := hide (hb1.trans (hb2.mono hb1.size))
  clear hb1 hb2
  go_wp2_with fail
  rcases hq : parentP b with _ | ⟨q, j⟩
  · refine (parent_none b HB.out hq w2 (SP.out.bel B2.out)).mono ?_
    rintro e w3 ⟨rfl, hb3⟩
    go_wp2_with fail
    go_ret
    exact ⟨rfl, B2.out.trans (hb3.mono B2.out.size)⟩
  · refine (parent_yes b HB.out hq w2 (SP.out.bel B2.out)).mono ?_
    rintro e w3 ⟨rfl, hb3⟩
    go_wp2_with fail
    go_ret
    exact ⟨rfl, B2.out.trans (hb3.mono B2.out.size)⟩
set_option maxHeartbeats 1000000 in
theorem falls_yes (a b : Int) (ha : I64 a) (hb : I64 b) {p : Int} {i : Nat} (hp : parentP a = some (p, i)) (w : World) (sp : SpanAt w) : Calls Tryd.prog 8 #[.int .i64 a, .int .i64 b] w fun e w' => e = .returned (.bool true) ∧ Below w.heap.size w w' := by
  have SP := hide sp
  have HA := hide ha
  have HB := hide hb
  clear sp ha hb
  go_enter Tryd.func8, Tryd.ntmps8
  go_wp2_with fail
  refine (awake04 w SP.out).mono ?_
  rintro e w1 ⟨rfl, hb1⟩
  go_wp2_with fail
  refine (parent_yes a HA.out hp w1 (SP.out.bel hb1)).mono ?_
  rintro e w2 ⟨rfl, hb2⟩
  have B2 := hide (hb1.trans (hb2.mono hb1.size))
  clear hb1 hb2
  go_wp2_with fail
  rcases hq : parentP b with _ | ⟨q, j⟩
  · refine (parent_none b HB.out hq w2 (SP.out.bel B2.out)).mono ?_
    rintro e w3 ⟨rfl, hb3⟩
    go_wp2_with fail
    go_ret
    exact ⟨rfl, B2.out.trans (hb3.mono B2.out.size)⟩
  refine (parent_yes b HB.out hq w2 (SP.out.bel B2.out)).mono ?_
  rintro e w3 ⟨rfl, hb3⟩
  have B3 := hide (B2.out.trans (hb3.mono B2.out.size))
  clear hb3 B2
  obtain ⟨la, x, fa, -, -, mx, hpb, hpi, hpp⟩ := fall_of hp
  obtain ⟨lb, y, fb, -, -, my, hqb, -, -⟩ := fall_of hq
  have hxb := findP_bd fa
  have hyb := findP_bd fb
  have hord := hide (falls_four hp hq fa fb)
  have hpp' := hide hpp
  have HP := hide hpb
  have HM := hide (show manyN la x ≤ 600 - x from Nat.min_le_right _ _)
  have HXY := hide (show x < 600 ∧ y < 600 by omega)
  clear hp hq hpi hqb hxb hyb mx my hpb hpp
  go_wp2_with fail
  refine (covers_yes a HA.out fa w3 (SP.out.bel B3.out)).mono ?_
  rintro e w4 ⟨rfl, hb4⟩
  have B4 := hide (B3.out.trans (hb4.mono B3.out.size))
  clear hb4 B3
  go_wp2_with fail
  refine (covers_yes b HB.out fb w4 (SP.out.bel B4.out)).mono ?_
  rintro e w5 ⟨rfl, hb5⟩
  have B5 := hide (B4.out.trans (hb5.mono B4.out.size))
  clear hb5 B4
  by_cases h6 : p = 600
  · have hd : (p == 600) = true := by rw [beq_iff_eq]; exact h6
    have hd2 : (p != 600) = false := by rw [bne_eq_false_iff_eq]; exact h6
    clear fa fb hd hd2
    subst h6
    rcases hord.out with h | ⟨h, h1, h2, h3, h4⟩ | ⟨h, h1, h2, h3, h4⟩ | ⟨h, h1, h2, h3⟩
    · clear hord
      go_wp2_with fail
      go_ret
      exact ⟨rfl, B5.out⟩
    · subst h
      clear hord
      have hd : ((i : Int) == (j : Int)) = false := by rw [beq_eq_false_iff_ne]; exact fun e => h3 (by omega)
      have hd2 : (a == b) = false := by rw [beq_eq_false_iff_ne]; exact h4
      go_wp2_with fail
      go_ret
      exact ⟨rfl, B5.out⟩
    · subst h
      clear hord
      have hd : ((i : Int) == (j : Int)) = false := by rw [beq_eq_false_iff_ne]; exact fun e => h3 (by omega)
      have hd2 : (a == b) = false := by rw [beq_eq_false_iff_ne]; exact h4
      go_wp2_with fail
      go_ret
      exact ⟨rfl, B5.out⟩
    · subst h h1 h2 h3
      clear hord
      go_wp2_with fail
      go_ret
      exact ⟨rfl, B5.out⟩
  · obtain ⟨fp, f1, f2, f3, f4⟩ := hpp'.out h6
    have hfp := (findP_bd f1).2.1
    have hm2 : manyN (la + 1) fp ≤ 600 - fp := Nat.min_le_right _ _
    obtain ⟨m1, hm1⟩ : ∃ m1, m1 = manyN la x := ⟨_, rfl⟩
    obtain ⟨m2, hm2'⟩ : ∃ m2, m2 = manyN (la + 1) fp := ⟨_, rfl⟩
    have C := hide (covers_yes p (i64s ⟨HP.out.1, by have := HP.out.2; omega⟩) f1 w5 (SP.out.bel B5.out))
    rw [← hm2'] at C hm2 f4
    rw [← hm1] at f4 HM ⊢
    obtain ⟨my, hmy⟩ : ∃ m2, m2 = manyN lb y := ⟨_, rfl⟩
    rw [← hmy]
    have w1' : IntKind.i64.wrap ((x : Int) + (m1 : Int)) = (x : Int) + (m1 : Int) := by have := HM.out; have := HXY.out; rw [IntKind.wrap_i64]; omega
    have w2' : IntKind.i64.wrap ((fp : Int) + (m2 : Int)) = (fp : Int) + (m2 : Int) := by rw [IntKind.wrap_i64]; omega
    have z1 : decide ((x : Int) < (fp : Int)) = false := decide_eq_false (by omega)
    have z2 : decide ((fp : Int) + (m2 : Int) < (x : Int) + (m1 : Int)) = false := decide_eq_false (by omega)
    clear z1 z2 hm1 hm2' hmy fa fb f1 f2 hfp hm2
    have hd2 : (p != 600) = true := by rw [bne_iff_ne]; exact h6
    have H6 := hide h6
    clear h6
    go_wp2_with fail
    refine C.out.mono ?_
    rintro e w6 ⟨rfl, hb6⟩
    have B6 := hide (B5.out.trans (hb6.mono B5.out.size))
    clear hb6 B5 C
    rcases hord.out with h | ⟨h, h1, h2, h3, h4⟩ | ⟨h, h1, h2, h3, h4⟩ | ⟨h, h1, h2, h3⟩
    · clear hord
      go_wp2_with fail
      go_ret
      exact ⟨rfl, B6.out⟩
    · subst h
      clear hord
      have hd : ((i : Int) == (j : Int)) = false := by rw [beq_eq_false_iff_ne]; exact fun e => h3 (by omega)
      have hd2 : (a == b) = false := by rw [beq_eq_false_iff_ne]; exact h4
      go_wp2_with fail
      go_ret
      exact ⟨rfl, B6.out⟩
    · subst h
      clear hord
      have hd : ((i : Int) == (j : Int)) = false := by rw [beq_eq_false_iff_ne]; exact fun e => h3 (by omega)
      have hd2 : (a == b) = false := by rw [beq_eq_false_iff_ne]; exact h4
      go_wp2_with fail
      go_ret
      exact ⟨rfl, B6.out⟩
    · subst h h1 h2 h3
      clear hord
      go_wp2_with fail
      go_ret
      exact ⟨rfl, B6.out⟩
end Go.Proofs.YtakflabokbaibaaDoor
