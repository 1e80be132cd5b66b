/- The walk over IndexAll. -/
import Derived.Test.YtakflabokbaibaaDoorAllS
import Derived.Test.YtakflabokbaibaaDoorRefW
import Derived.Test.YtakflabokbaibaaDoorAw04
set_option linter.unusedVariables false
set_option linter.unusedSimpArgs false
namespace Go.Proofs.YtakflabokbaibaaDoor
open Go.RowKit
attribute [local go_sem ↓] Go.wp_at_zero Go.wp_at_succ

theorem modU2 (a q : Int) (hq : 0 < q) (hq2 : q < 1000000) : ∃ k : Nat, IntKind.i64.wrap ((IntKind.u64.wrap a).tmod q) = k ∧ RowKit.wrap64 ((IntKind.u64.wrap a).tmod q) = k ∧ (k : Int) < q := by
  have h0' : 0 ≤ IntKind.u64.wrap a := by simp [IntKind.wrap, IntKind.bits, IntKind.signed]; omega
  generalize IntKind.u64.wrap a = u at *
  have e1 := Int.emod_nonneg u (show q ≠ 0 by omega)
  have e2 := Int.emod_lt_of_pos u hq
  rw [Int.tmod_eq_emod_of_nonneg h0']
  exact ⟨(u % q).toNat, by rw [IntKind.wrap_i64]; omega, by rw [IntWalk.wrap64_in _ (by omega)]; omega, by omega⟩
set_option maxHeartbeats 2000000 in
set_option maxRecDepth 100000 in
theorem all_yes (a : Int) (ha : I64 a) (w : World) (sp : SpanAt w) : Calls Tryd.prog 9 #[.int .i64 a] w fun e w' => e = .returned (.bool true) ∧ Below w.heap.size w w' := by
  have SP := hide sp
  clear sp ha
  obtain ⟨k, hk, hk', hk6⟩ := modU2 a 601 (by decide) (by decide)
  have hk6' : k ≤ 600 := by omega
  go_enter Tryd.func9, Tryd.ntmps9
  go_wp2_with fail
  refine (awake04 w SP.out).mono ?_
  rintro e w1 ⟨rfl, hb1⟩
  have B1 := hide hb1
  clear hb1
  go_wp2_with fail
  refine (metas_yes 0 k (Nat.zero_le _) hk6' w1 (SP.out.bel B1.out)).mono ?_
  rintro e w2 ⟨A, n, rfl, hn, hb2⟩
  rw [Nat.sub_zero] at hn
  have hnc : n = cntN k := by rw [← hn.1]; exact cnt_len hk6'
  have HNC := hide hnc
  have hn42 : n ≤ 42 := by rw [hnc]; exact cntN_le k
  have L2 := hide hn
  have B2 := hide (B1.out.trans (hb2.mono B1.out.size))
  clear hb2 hn B1 hnc hk hk' hk6
  go_wp2_with fail
  go_loopw [31] (fun x wr => ∃ i : Nat, i ≤ n ∧ x = .int .i64 (i : Int) ∧ Below w2.heap.size w2 wr) (fun x _ => n - (intOf x).toNat)
  case atStart => exact ⟨0, Nat.zero_le _, rfl, Below.refl _ _⟩
  case round =>
    obtain ⟨wo, rfl⟩ : ∃ wo : World, wo = wr := ⟨_, rfl⟩
    obtain ⟨i, hi, rfl, h1⟩ := hrel
    have H1 := hide h1
    have L3 := hide (L2.out.below h1)
    have B3 := hide (B2.out.trans (h1.mono B2.out.size))
    clear h1
    by_cases hlt : i < n
    · obtain ⟨g, m, hm, hA, -, hg, q1, -, -⟩ := L3.out.at hlt
      subst hA
      have HM := hide hm
      obtain ⟨p, s, l, f, hp, hf, hl1, hmn, hfk, hm6, hno, hth⟩ := all_item hk6' hm
      have HP := hide hp
      have HF := hide hf
      have HNO := hide hno
      have HTH := hide hth
      have HM6 := hide hm6
      clear hm hp hf hno hth hm6
      go_wp2_with fail
      refine (parent_yes m ⟨by have := HM6.out; omega, by have := HM6.out; omega⟩ HP.out wo (SP.out.bel B3.out)).mono ?_
      rintro e v1 ⟨rfl, b1⟩
      have D1 := hide b1
      clear b1
      go_wp2_with fail
      refine (covers_yes m ⟨by have := HM6.out; omega, by have := HM6.out; omega⟩ HF.out v1 (SP.out.bel (B3.out.trans (D1.out.mono B3.out.size)))).mono ?_
      rintro e v2 ⟨rfl, b2⟩
      have D2 := hide (D1.out.trans (b2.mono D1.out.size))
      clear b2 D1
      have hcut : ∀ W, (Instr.slice 23 (.slice (some ⟨g, 0, none⟩) n n) none (some (.int .i64 (i : Int))) none).run Tryd.prog W = .ok (.slice (some ⟨g, 0, none⟩) i n) W := fun W => run_cut_h (P := Tryd.prog) etyJ (some ⟨g, 0, none⟩) n n W i .i64 (by omega)
      obtain ⟨mn, hmn'⟩ : ∃ x, x = manyN l f := ⟨_, rfl⟩
      rw [← hmn'] at hmn
      rw [← hmn']
      clear hmn'
      go_wp2_with fail
      go_loopw [54, 13] (fun x y wr => ∃ j : Nat, j ≤ i ∧ x = .int .i64 (j : Int) ∧ y = .bool (decide (p = 600 ∨ p ∈ (metasN 0 k).take j)) ∧ wr = v2) (fun x _ _ => i - (intOf x).toNat)
      case atStart => exact ⟨0, Nat.zero_le _, rfl, by (by_cases h : p = 600 <;> simp [h]), rfl⟩
      case round =>
        obtain ⟨j, hj, rfl, rfl, rfl⟩ := hrel
        have L4 := hide (L3.out.below D2.out)
        by_cases hlt2 : j < i
        · obtain ⟨g', x, hx, hA', -, -, q2, -, -⟩ := L4.out.at (show j < n by omega)
          injection hA' with hA'
          injection hA' with hA'
          subst hA'
          have hxt : x ∈ (metasN 0 k).take i := by
            refine List.mem_of_getElem? (i := j) ?_
            rw [List.getElem?_take, if_pos hlt2, hx]
          have hxm : (x == m) = false := by rw [beq_eq_false_iff_ne]; rintro rfl; exact HNO.out hxt
          have htk : (metasN 0 k).take (j + 1) = (metasN 0 k).take j ++ [x] := by rw [List.take_add_one, hx]; rfl
          have HTK := hide htk
          clear hxt hx htk
          by_cases hD : p = 600 ∨ p ∈ (metasN 0 k).take j
          · have hd : decide (p = 600 ∨ p ∈ (metasN 0 k).take j) = true := decide_eq_true hD
            have hd' : Hid (decide (p = 600 ∨ p ∈ (metasN 0 k).take (j + 1)) = true) := hide (decide_eq_true (by rw [HTK.out]; rcases hD with h | h; exact .inl h; exact .inr (by simp [h])))
            rw [hd]
            clear hD hd
            go_wp2_with fail
            go_roundw
            case rel => exact ⟨j + 1, by omega, by go_num, by rw [hd'.out], trivial⟩
            case measure => simp [intOf]; omega
          · have hd : decide (p = 600 ∨ p ∈ (metasN 0 k).take j) = false := decide_eq_false hD
            rw [hd]
            by_cases hxp : x = p
            · have hd' : Hid (decide (p = 600 ∨ p ∈ (metasN 0 k).take (j + 1)) = true) := hide (decide_eq_true (by rw [HTK.out]; exact .inr (by simp [hxp])))
              have hb : (x == p) = true := by rw [beq_iff_eq]; exact hxp
              clear hD hd hxp
              go_wp2_with fail
              go_roundw
              case rel => exact ⟨j + 1, by omega, by go_num, by rw [hd'.out], trivial⟩
              case measure => simp [intOf]; omega
            · have hd' : Hid (decide (p = 600 ∨ p ∈ (metasN 0 k).take (j + 1)) = false) := hide (decide_eq_false (by
                rw [HTK.out]
                rintro (h | h)
                · exact hD (.inl h)
                · rcases List.mem_append.1 h with h | h
                  · exact hD (.inr h)
                  · exact hxp (List.mem_singleton.1 h).symm))
              have hb : (x == p) = false := by rw [beq_eq_false_iff_ne]; exact hxp
              clear hD hd hxp
              go_wp2_with fail
              go_roundw
              case rel => exact ⟨j + 1, by omega, by go_num, by rw [hd'.out], trivial⟩
              case measure => simp [intOf]; omega
        · have hji : j = i := by omega
          have hdt : decide (p = 600 ∨ p ∈ (metasN 0 k).take j) = true := decide_eq_true (by rw [hji]; exact HTH.out)
          rw [hdt]
          have LM := hide (level_any m ⟨by have := HM6.out; omega, by have := HM6.out; omega⟩ HF.out wr (SP.out.bel (B3.out.trans (D2.out.mono B3.out.size))))
          have d1 : ¬ k ≤ f := by omega
          have d2 : ¬ mn < 1 := by omega
          have d3 : ¬ l < 1 := by omega
          have d2' : ¬ (mn : Int) < 1 := by omega
          have d3' : ¬ (l : Int) < 1 := by omega
          clear hdt
          go_wp2_with fail
          refine LM.out.mono ?_
          rintro e v3 ⟨rfl, b3⟩
          have D3 := hide (D2.out.trans (b3.mono D2.out.size))
          clear b3 LM
          go_wp2_with fail
          go_roundw
          case rel => exact ⟨i + 1, by omega, by go_num, H1.out.trans (D3.out.mono H1.out.size)⟩
          case measure => simp [intOf]; omega
    · have hd : Hid ((0 < n) = (6 < k)) := hide (by rw [HNC.out]; exact cnt_pos hk6')
      by_cases h0 : 0 < n
      · have h6 : 6 < k := by rw [← hd.out]; exact h0
        have h6' : (6 : Int) < (k : Int) := by omega
        clear hd
        go_wp2_with fail
        go_ret
        exact ⟨rfl, B3.out⟩
      · have h6 : ¬ 6 < k := by rw [← hd.out]; exact h0
        have h6' : ¬ (6 : Int) < (k : Int) := by omega
        clear hd
        go_wp2_with fail
        go_ret
        exact ⟨rfl, B3.out⟩
end Go.Proofs.YtakflabokbaibaaDoor
