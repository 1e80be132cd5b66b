import Derived.Test.YtbamdibpkkponaaDoorJb09
import Derived.Test.YtbamdibpkkponaaDoorJb04
import Derived.Test.YtbamdibpkkponaaDoorJb06
import Derived.Test.YtbamdibpkkponaaDoorJb05
import Derived.Test.YtbamdibpkkponaaDoorJb02
set_option linter.unusedVariables false
set_option linter.unusedSimpArgs false
/- The walk over the reference's Find: the list. -/
namespace Go.Proofs.YtbamdibpkkponaaDoor
open Go.RowKit
attribute [local go_sem ↓] Go.wp_at_zero Go.wp_at_succ

theorem findL_drop {n : Int} {m : MetaL} {l : List MetaL} {j : Nat} (hm : l[j]? = some m) : findL n (l.drop j) = (if m.n = n then some m
    else if m.level = 1 ∧ (m.first : Int) ≤ n ∧ n < (m.first : Int) + 16 ∧ n < 600 then some ⟨n, 0, n.toNat, ⟨m.p.root, m.p.metas ++ [m.n], m.p.slots ++ [(n - (m.first : Int)).toNat]⟩⟩
    else findL n (l.drop (j + 1))) := by
  have hlt := (List.getElem?_eq_some_iff.1 hm)
  rw [List.drop_eq_getElem_cons hlt.1, hlt.2]
  rfl
theorem all_item_bd {j : Nat} {m : MetaL} (hm : allR[j]? = some m) : -602 ≤ m.n ∧ m.n < 0 ∧ m.first < 600 := by
  have := List.all_eq_true.1 all_bd m (List.mem_of_getElem? hm)
  simpa using this
theorem all_lens : allR.all (fun m => decide (m.p.metas.length ≤ 5) && decide (m.p.slots.length ≤ 5) && decide (m.level ≤ 3) && decide (m.p.root ≤ 10)) = true := by decide +kernel
theorem all_item_len {j : Nat} {m : MetaL} (hm : allR[j]? = some m) : m.p.metas.length ≤ 5 ∧ m.p.slots.length ≤ 5 ∧ m.level ≤ 3 ∧ m.p.root ≤ 10 := by
  have := List.all_eq_true.1 all_lens m (List.mem_of_getElem? hm)
  simp only [Bool.and_eq_true, decide_eq_true_eq] at this
  exact ⟨this.1.1.1, this.1.1.2, this.1.2, this.2⟩
theorem rdI_kp {w w' : World} {A : Option Addr} {n g : Nat} {l : List Int} {cs : Array Value} (h : RdI w A n l) (hB : Blk w g 59 cs) (hk : Kp [g] w w') : RdI w' A n l := by
  refine h.kp hk (fun g' hg' hin => ?_)
  rw [List.mem_singleton] at hin
  subst hin
  rcases h.2 with ⟨rfl, -⟩ | ⟨g2, cur, rfl, -, h2, -⟩
  · cases hg'
  · simp only [Value.ownBlock, Option.some.injEq] at hg'
    subst hg'
    have h6 : some (Obj.cells cur 3) = some (Obj.cells cs 59) := h2.symm.trans hB
    simp at h6
section
variable {w w0 : World} {g B : Nat} {t : TypeId} {x0 x1 x2 x3 x4 x5 y0 y1 y2 y3 y4 y5 : Value}
/-- Six cells written. -/
abbrev six (w : World) (g : Nat) (y0 y1 y2 y3 y4 y5 : Value) : World := (((((w.setCell ⟨g, 0, none⟩ y0).setCell ⟨g, 1, none⟩ y1).setCell ⟨g, 2, none⟩ y2).setCell ⟨g, 3, none⟩ y3).setCell ⟨g, 4, none⟩ y4).setCell ⟨g, 5, none⟩ y5
theorem six_blk (h : Blk w g t #[x0, x1, x2, x3, x4, x5]) : Blk (six w g y0 y1 y2 y3 y4 y5) g t #[y0, y1, y2, y3, y4, y5] := by
  have := (((((h.set 0 y0).set 1 y1).set 2 y2).set 3 y3).set 4 y4).set 5 y5
  simpa using this
theorem six_bel (h : Below B w0 w) (hB : B ≤ g) : Below B w0 (six w g y0 y1 y2 y3 y4 y5) :=
  (((((h.setCell (p := ⟨g, 0, none⟩) hB y0).setCell (p := ⟨g, 1, none⟩) hB y1).setCell (p := ⟨g, 2, none⟩) hB y2).setCell (p := ⟨g, 3, none⟩) hB y3).setCell (p := ⟨g, 4, none⟩) hB y4).setCell (p := ⟨g, 5, none⟩) hB y5
theorem six_kp : Kp [g] w (six w g y0 y1 y2 y3 y4 y5) :=
  ((((((Kp.refl [g] w).set (p := ⟨g, 0, none⟩) (.inl (by simp)) y0).set (p := ⟨g, 1, none⟩) (.inl (by simp)) y1).set (p := ⟨g, 2, none⟩) (.inl (by simp)) y2).set (p := ⟨g, 3, none⟩) (.inl (by simp)) y3).set (p := ⟨g, 4, none⟩) (.inl (by simp)) y4).set (p := ⟨g, 5, none⟩) (.inl (by simp)) y5
end
set_option maxHeartbeats 2000000 in
set_option maxRecDepth 100000 in
theorem findL_neg (n : Int) (hn : I64 n) (h06 : n < 0) (w : World) : Calls Tryd.prog 26 #[.int .i64 n] w fun e w' => findV (findL n allR) w' e ∧ Below w.heap.size w w' := by
  have HN := hide hn
  have H06 := hide h06
  have d1 : ¬ (0 : Int) ≤ n := by omega
  clear hn h06
  go_enter Tryd.func26, Tryd.ntmps26
  go_wp2_with fail
  have k0 := Blk.new w 59 #[.int .i64 0, .int .i64 0, .int .i64 0, .int .i64 0, .slice none 0 0, .slice none 0 0]
  have b0 := (Below.refl w.heap.size w).alloc (Nat.le_refl _) (.cells #[.int .i64 0, .int .i64 0, .int .i64 0, .int .i64 0, .slice none 0 0, .slice none 0 0] 59)
  refine (all_any _).mono ?_
  rintro e w1 ⟨A, k, c, rfl, h1, hk, hb1⟩
  have K1 := hide (k0.below hb1)
  have M1 := hide (h1.base (base' := w.heap.size + 1) (by simp))
  have B1 := hide (b0.trans (hb1.mono b0.size))
  clear k0 b0 h1 hb1
  obtain ⟨g2, hg2⟩ : ∃ g2, g2 = w.heap.size := ⟨_, rfl⟩
  rw [← hg2] at K1 M1
  rw [← hg2]
  have HG := hide hg2
  clear hg2
  go_wp2_with fail
  go_loopw [21] (fun x wr => ∃ j : Nat, j ≤ k ∧ x = .int .i64 (j : Int) ∧ findL n (allR.drop j) = findL n allR ∧ Below w1.heap.size w1 wr) (fun x _ => k - (intOf x).toNat)
  case atStart => exact ⟨0, Nat.zero_le _, rfl, by rw [List.drop_zero], Below.refl _ _⟩
  case round =>
    obtain ⟨j, hj, rfl, hfl, hb⟩ := hrel
    have FL := hide hfl
    have HB := hide hb
    have K2 := hide (K1.out.below hb)
    have M2 := hide (M1.out.below hb)
    have B2 := hide (B1.out.trans (hb.mono B1.out.size))
    clear hfl hb
    by_cases hlt : j < k
    · obtain ⟨g, m, P1, e1, P2, e2, hA, hg1, hg2, hm, r1, r2, hc⟩ := M2.out.at hlt
      subst hA
      have c0 := hc 0 _ rfl
      have c1 := hc 1 _ rfl
      have c2 := hc 2 _ rfl
      have c3 := hc 3 _ rfl
      have c4 := hc 4 _ rfl
      have c5 := hc 5 _ rfl
      simp only [Nat.add_zero] at c0
      have R1 := hide r1
      have R2 := hide r2
      have FD := hide (findL_drop (n := n) hm)
      have BD := hide (all_item_bd hm)
      have BL := hide (all_item_len hm)
      have HG2 := hide hg2
      clear hc r1 r2 hm hg1 hg2
      have u0 := K2.out.cell 0
      have u1 := K2.out.cell 1
      have u2 := K2.out.cell 2
      have u3 := K2.out.cell 3
      have u4 := K2.out.cell 4
      have u5 := K2.out.cell 5
      have f0 := K2.out.frozen 0
      have f1 := K2.out.frozen 1
      have f2 := K2.out.frozen 2
      have f3 := K2.out.frozen 3
      have f4 := K2.out.frozen 4
      have f5 := K2.out.frozen 5
      simp only [List.getElem?_toArray, List.getElem?_cons_succ, List.getElem?_cons_zero] at u0 u1 u2 u3 u4 u5
      have hlt2 := K2.out.lt
      have hne2 : g2 ≠ wr.heap.size := by omega
      by_cases hmn : m.n = n
      · have hd : (m.n == n) = true := by rw [beq_iff_eq]; exact hmn
        have HMN := hide hmn
        clear hmn
        go_wp2_with fail
        have hb6 := six_bel (y0 := .int .i64 m.n) (y1 := .int .i64 (m.level : Int)) (y2 := .int .i64 (m.first : Int)) (y3 := .int .i64 (m.p.root : Int)) (y4 := .slice P1 m.p.metas.length e1) (y5 := .slice P2 m.p.slots.length e2) B2.out (g := g2) (by rw [HG.out]; exact Nat.le_refl _)
        have hal := (Below.refl _ (six wr g2 (.int .i64 m.n) (.int .i64 (m.level : Int)) (.int .i64 (m.first : Int)) (.int .i64 (m.p.root : Int)) (.slice P1 m.p.metas.length e1) (.slice P2 m.p.slots.length e2))).alloc (Nat.le_refl _) (.cells #[.int .i64 m.n, .int .i64 (m.level : Int), .int .i64 (m.first : Int), .int .i64 (m.p.root : Int), .slice P1 m.p.metas.length e1, .slice P2 m.p.slots.length e2] 59)
        refine ret_meta rfl rfl ((six_blk K2.out).alloc _) ⟨?_, hb6.alloc hb6.size _⟩
        rw [show findL n allR = some m by rw [← FL.out, FD.out, if_pos HMN.out]]
        exact ⟨P1, e1, P2, e2, rfl, (rdI_kp R1.out K2.out six_kp).below hal, (rdI_kp R2.out K2.out six_kp).below hal⟩
      · have hd : (m.n == n) = false := by rw [beq_eq_false_iff_ne]; exact hmn
        have HMN := hide hmn
        clear hmn u0 u1 u2 u3 u4 u5 f0 f1 f2 f3 f4 f5
        by_cases hl1 : m.level = 1
        · have hl : ((m.level : Int) == 1) = true := by rw [beq_iff_eq]; omega
          clear hl1
          have hnf : ¬ (m.first : Int) ≤ n := by have := H06.out; omega
          have hnext : Hid (findL n (allR.drop (j + 1)) = findL n allR) := hide (by rw [← FL.out, FD.out, if_neg HMN.out, if_neg (fun h => hnf h.2.1)])
          go_wp2_with fail
          go_roundw
          case rel => exact ⟨j + 1, by omega, by go_num, hnext.out, HB.out.alloc HB.out.size _⟩
          case measure => simp [intOf]; omega
        · have hl : ((m.level : Int) == 1) = false := by rw [beq_eq_false_iff_ne]; omega
          have hnext : Hid (findL n (allR.drop (j + 1)) = findL n allR) := hide (by rw [← FL.out, FD.out, if_neg HMN.out, if_neg (fun h => hl1 h.1)])
          clear hl1
          go_wp2_with fail
          go_roundw
          case rel => exact ⟨j + 1, by omega, by go_num, hnext.out, HB.out.alloc HB.out.size _⟩
          case measure => simp [intOf]; omega
    · have hjk : j = k := by omega
      have hnone : Hid (findL n allR = none) := hide (by
        rw [← FL.out, hjk, ← M2.out.len, List.drop_length]
        rfl)
      have u0 := K2.out.cell 0
      have u1 := K2.out.cell 1
      have u2 := K2.out.cell 2
      have u3 := K2.out.cell 3
      have u4 := K2.out.cell 4
      have u5 := K2.out.cell 5
      have f0 := K2.out.frozen 0
      have f1 := K2.out.frozen 1
      have f2 := K2.out.frozen 2
      have f3 := K2.out.frozen 3
      have f4 := K2.out.frozen 4
      have f5 := K2.out.frozen 5
      simp only [List.getElem?_toArray, List.getElem?_cons_succ, List.getElem?_cons_zero] at u0 u1 u2 u3 u4 u5
      clear hjk
      go_wp2_with fail
      have hb6 := six_bel (y0 := .int .i64 0) (y1 := .int .i64 0) (y2 := .int .i64 0) (y3 := .int .i64 0) (y4 := .slice none 0 0) (y5 := .slice none 0 0) B2.out (g := g2) (by rw [HG.out]; exact Nat.le_refl _)
      refine ret_meta rfl rfl (six_blk K2.out) ⟨?_, hb6⟩
      rw [hnone.out]
      rfl
set_option maxHeartbeats 2000000 in
set_option maxRecDepth 100000 in
theorem findL_pos (n : Int) (hn : I64 n) (h06 : 6 ≤ n) (w : World) : Calls Tryd.prog 26 #[.int .i64 n] w fun e w' => findV (findL n allR) w' e ∧ Below w.heap.size w w' := by
  have HN := hide hn
  have H06 := hide h06
  have d1 : (0 : Int) ≤ n := by omega
  have d2 : ¬ n < 6 := by omega
  clear hn h06
  go_enter Tryd.func26, Tryd.ntmps26
  go_wp2_with fail
  have k0 := Blk.new w 59 #[.int .i64 0, .int .i64 0, .int .i64 0, .int .i64 0, .slice none 0 0, .slice none 0 0]
  have b0 := (Below.refl w.heap.size w).alloc (Nat.le_refl _) (.cells #[.int .i64 0, .int .i64 0, .int .i64 0, .int .i64 0, .slice none 0 0, .slice none 0 0] 59)
  refine (all_any _).mono ?_
  rintro e w1 ⟨A, k, c, rfl, h1, hk, hb1⟩
  have K1 := hide (k0.below hb1)
  have M1 := hide (h1.base (base' := w.heap.size + 1) (by simp))
  have B1 := hide (b0.trans (hb1.mono b0.size))
  clear k0 b0 h1 hb1
  obtain ⟨g2, hg2⟩ : ∃ g2, g2 = w.heap.size := ⟨_, rfl⟩
  rw [← hg2] at K1 M1
  rw [← hg2]
  have HG := hide hg2
  clear hg2
  go_wp2_with fail
  go_loopw [21] (fun x wr => ∃ j : Nat, j ≤ k ∧ x = .int .i64 (j : Int) ∧ findL n (allR.drop j) = findL n allR ∧ Below w1.heap.size w1 wr) (fun x _ => k - (intOf x).toNat)
  case atStart => exact ⟨0, Nat.zero_le _, rfl, by rw [List.drop_zero], Below.refl _ _⟩
  case round =>
    obtain ⟨j, hj, rfl, hfl, hb⟩ := hrel
    have FL := hide hfl
    have HB := hide hb
    have K2 := hide (K1.out.below hb)
    have M2 := hide (M1.out.below hb)
    have B2 := hide (B1.out.trans (hb.mono B1.out.size))
    clear hfl hb
    by_cases hlt : j < k
    · obtain ⟨g, m, P1, e1, P2, e2, hA, hg1, hg2, hm, r1, r2, hc⟩ := M2.out.at hlt
      subst hA
      have c0 := hc 0 _ rfl
      have c1 := hc 1 _ rfl
      have c2 := hc 2 _ rfl
      have c3 := hc 3 _ rfl
      have c4 := hc 4 _ rfl
      have c5 := hc 5 _ rfl
      simp only [Nat.add_zero] at c0
      have R1 := hide r1
      have R2 := hide r2
      have FD := hide (findL_drop (n := n) hm)
      have BD := hide (all_item_bd hm)
      have BL := hide (all_item_len hm)
      have HG2 := hide hg2
      clear hc r1 r2 hm hg1 hg2
      have u0 := K2.out.cell 0
      have u1 := K2.out.cell 1
      have u2 := K2.out.cell 2
      have u3 := K2.out.cell 3
      have u4 := K2.out.cell 4
      have u5 := K2.out.cell 5
      have f0 := K2.out.frozen 0
      have f1 := K2.out.frozen 1
      have f2 := K2.out.frozen 2
      have f3 := K2.out.frozen 3
      have f4 := K2.out.frozen 4
      have f5 := K2.out.frozen 5
      simp only [List.getElem?_toArray, List.getElem?_cons_succ, List.getElem?_cons_zero] at u0 u1 u2 u3 u4 u5
      have hlt2 := K2.out.lt
      have hne2 : g2 ≠ wr.heap.size := by omega
      by_cases hmn : m.n = n
      · have hd : (m.n == n) = true := by rw [beq_iff_eq]; exact hmn
        have HMN := hide hmn
        clear hmn
        go_wp2_with fail
        have hb6 := six_bel (y0 := .int .i64 m.n) (y1 := .int .i64 (m.level : Int)) (y2 := .int .i64 (m.first : Int)) (y3 := .int .i64 (m.p.root : Int)) (y4 := .slice P1 m.p.metas.length e1) (y5 := .slice P2 m.p.slots.length e2) B2.out (g := g2) (by rw [HG.out]; exact Nat.le_refl _)
        have hal := (Below.refl _ (six wr g2 (.int .i64 m.n) (.int .i64 (m.level : Int)) (.int .i64 (m.first : Int)) (.int .i64 (m.p.root : Int)) (.slice P1 m.p.metas.length e1) (.slice P2 m.p.slots.length e2))).alloc (Nat.le_refl _) (.cells #[.int .i64 m.n, .int .i64 (m.level : Int), .int .i64 (m.first : Int), .int .i64 (m.p.root : Int), .slice P1 m.p.metas.length e1, .slice P2 m.p.slots.length e2] 59)
        refine ret_meta rfl rfl ((six_blk K2.out).alloc _) ⟨?_, hb6.alloc hb6.size _⟩
        rw [show findL n allR = some m by rw [← FL.out, FD.out, if_pos HMN.out]]
        exact ⟨P1, e1, P2, e2, rfl, (rdI_kp R1.out K2.out six_kp).below hal, (rdI_kp R2.out K2.out six_kp).below hal⟩
      · have hd : (m.n == n) = false := by rw [beq_eq_false_iff_ne]; exact hmn
        have HMN := hide hmn
        clear hmn u0 u1 u2 u3 u4 u5 f0 f1 f2 f3 f4 f5
        by_cases hl1 : m.level = 1
        · have hl : ((m.level : Int) == 1) = true := by rw [beq_iff_eq]; omega
          have HL1 := hide hl1
          clear hl1
          by_cases hin : (m.first : Int) ≤ n ∧ n < (m.first : Int) + 16 ∧ n < 600
          · obtain ⟨i1, i2, i3⟩ := hin
            have BDo := BD.out
            have BLo := BL.out
            have hwa : IntKind.i64.wrap ((m.first : Int) + 16) = (m.first : Int) + 16 := by rw [IntKind.wrap_i64]; omega
            have hws : IntKind.i64.wrap (n - (m.first : Int)) = n - (m.first : Int) := by rw [IntKind.wrap_i64]; omega
            have hfound : Hid (findL n allR = some ⟨n, 0, n.toNat, ⟨m.p.root, m.p.metas ++ [m.n], m.p.slots ++ [(n - (m.first : Int)).toNat]⟩⟩) := hide (by rw [← FL.out, FD.out, if_neg HMN.out, if_pos ⟨HL1.out, i1, i2, i3⟩])
            have g1' := HG2.out
            go_wp2_with fail
            have K6 := hide (Blk.new wr 59 #[.int .i64 m.n, .int .i64 (m.level : Int), .int .i64 (m.first : Int), .int .i64 (m.p.root : Int), .slice P1 m.p.metas.length e1, .slice P2 m.p.slots.length e2])
            have hal := (Below.refl wr.heap.size wr).alloc (Nat.le_refl _) (.cells #[.int .i64 m.n, .int .i64 (m.level : Int), .int .i64 (m.first : Int), .int .i64 (m.p.root : Int), .slice P1 m.p.metas.length e1, .slice P2 m.p.slots.length e2] 59)
            have K3 := hide (K2.out.below hal)
            have Q1 := hide (R1.out.below hal)
            have Q2 := hide (R2.out.below hal)
            have B3 := hide (B2.out.trans (hal.mono B2.out.size))
            generalize hg6 : wr.heap.size = g6 at K6 hne2 ⊢
            generalize wr.alloc _ = ws at *
            clear hal hg6 M2 K2 R1 R2 HG2 FD FL c0 c1 c2 c3 c4 c5 hlt2 g1'
            have S1 := hide (sl_of_nrow Q1.out)
            have S2 := hide (sl_of_nrow Q2.out)
            have cC : ∀ w' : World, Below ws.heap.size ws w' → w'.cell? ⟨g6, 0, none⟩ = some (.int .i64 m.n) ∧ w'.cell? ⟨g6, 2, none⟩ = some (.int .i64 (m.first : Int)) ∧ w'.cell? ⟨g6, 3, none⟩ = some (.int .i64 (m.p.root : Int)) ∧ w'.cell? ⟨g6, 4, none⟩ = some (.slice P1 m.p.metas.length e1) ∧ w'.cell? ⟨g6, 5, none⟩ = some (.slice P2 m.p.slots.length e2) := fun w' hb => by
              have k := K6.out.below hb
              exact ⟨k.cell 0, k.cell 2, k.cell 3, k.cell 4, k.cell 5⟩
            have s0 := cC _ (Below.refl _ _).drew
            have CC := hide cC
            clear cC
            refine wp_region_noPanic ?_
            refine wp_region_held_drew (S := (fun w' => w'.cell? ⟨g6, 0, none⟩ = some (.int .i64 m.n) ∧ w'.cell? ⟨g6, 2, none⟩ = some (.int .i64 (m.first : Int)) ∧ w'.cell? ⟨g6, 3, none⟩ = some (.int .i64 (m.p.root : Int)) ∧ w'.cell? ⟨g6, 4, none⟩ = some (.slice P1 m.p.metas.length e1) ∧ w'.cell? ⟨g6, 5, none⟩ = some (.slice P2 m.p.slots.length e2))) (by kernel_rfl) ?_ (fun hHeld => ?_)
            · ((try dsimp only) <;> (first | trivial | assumption | go_keep))
            refine wpAnyH_take (i := 0) (v := ?_) (by simp only [List.getElem?_toArray, List.getElem?_cons_zero]; rfl) (by kernel_rfl) (by kernel_rfl) (by kernel_rfl) (fun _ _ _ h => h) (Or.inl ⟨by rfl, ?_⟩) (by assumption) ?_
            rotate_left 1
            · (intro w hSw; (try dsimp only at hSw); go_simp; try with_reducible rfl)
            try simp only [Act.put, List.setIfInBounds_toArray, List.set_cons_zero, List.set_cons_succ]
            refine wpAnyH_take (i := 1) (v := ?_) (by simp only [List.getElem?_toArray, List.getElem?_cons_succ, List.getElem?_cons_zero]; rfl) (by kernel_rfl) (by kernel_rfl) (by kernel_rfl) (fun _ _ _ h => h) (Or.inl ⟨by rfl, ?_⟩) (by assumption) ?_
            rotate_left 1
            · (intro w hSw; (try dsimp only at hSw); go_simp; try with_reducible rfl)
            try simp only [Act.put, List.setIfInBounds_toArray, List.set_cons_zero, List.set_cons_succ]
            refine wpAnyH_take (i := 2) (v := ?_) (by simp only [List.getElem?_toArray, List.getElem?_cons_succ, List.getElem?_cons_zero]; rfl) (by kernel_rfl) (by kernel_rfl) (by kernel_rfl) (fun _ _ _ h => h) (Or.inl ⟨by rfl, ?_⟩) (by assumption) ?_
            rotate_left 1
            · (intro w hSw; (try dsimp only at hSw); go_simp; try with_reducible rfl)
            try simp only [Act.put, List.setIfInBounds_toArray, List.set_cons_zero, List.set_cons_succ]
            refine wpAnyH_take (i := 3) (v := ?_) (by simp only [List.getElem?_toArray, List.getElem?_cons_succ, List.getElem?_cons_zero]; rfl) (by kernel_rfl) (by kernel_rfl) (by kernel_rfl) (fun _ _ _ h => h) (Or.inl ⟨by rfl, ?_⟩) (by assumption) ?_
            rotate_left 1
            · (intro w hSw; (try dsimp only at hSw); go_simp; try with_reducible rfl)
            try simp only [Act.put, List.setIfInBounds_toArray, List.set_cons_zero, List.set_cons_succ]
            refine wpAnyH_take (i := 4) (v := ?_) (by simp only [List.getElem?_toArray, List.getElem?_cons_succ, List.getElem?_cons_zero]; rfl) (by kernel_rfl) (by kernel_rfl) (by kernel_rfl) (fun _ _ _ h => h) (Or.inl ⟨by rfl, ?_⟩) (by assumption) ?_
            rotate_left 1
            · (intro w hSw; (try dsimp only at hSw); go_simp; try with_reducible rfl)
            try simp only [Act.put, List.setIfInBounds_toArray, List.set_cons_zero, List.set_cons_succ]
            refine wpAnyH_take (i := 6) (v := ?_) (by simp only [List.getElem?_toArray, List.getElem?_cons_succ, List.getElem?_cons_zero]; rfl) (by kernel_rfl) (by kernel_rfl) (by kernel_rfl) (fun _ _ _ h => h) (Or.inl ⟨by rfl, ?_⟩) (by assumption) ?_
            rotate_left 1
            · (intro w hSw; (try dsimp only at hSw); go_simp; try with_reducible rfl)
            try simp only [Act.put, List.setIfInBounds_toArray, List.set_cons_zero, List.set_cons_succ]
            refine wpAnyH_take (i := 7) (v := ?_) (by simp only [List.getElem?_toArray, List.getElem?_cons_succ, List.getElem?_cons_zero]; rfl) (by kernel_rfl) (by kernel_rfl) (by kernel_rfl) (fun _ _ _ h => h) (Or.inl ⟨by rfl, ?_⟩) (by assumption) ?_
            rotate_left 1
            · (intro w hSw; (try dsimp only at hSw); go_simp; try with_reducible rfl)
            try simp only [Act.put, List.setIfInBounds_toArray, List.set_cons_zero, List.set_cons_succ]
            refine wpAnyH_take (i := 8) (v := ?_) (by simp only [List.getElem?_toArray, List.getElem?_cons_succ, List.getElem?_cons_zero]; rfl) (by kernel_rfl) (by kernel_rfl) (by kernel_rfl) (fun _ _ _ h => h) (Or.inl ⟨by rfl, ?_⟩) (by assumption) ?_
            rotate_left 1
            · (intro w hSw; (try dsimp only at hSw); go_simp; try with_reducible rfl)
            try simp only [Act.put, List.setIfInBounds_toArray, List.set_cons_zero, List.set_cons_succ]
            refine wpAnyH_take (i := 10) (v := ?_) (by simp only [List.getElem?_toArray, List.getElem?_cons_succ, List.getElem?_cons_zero]; rfl) (by kernel_rfl) (by kernel_rfl) (by kernel_rfl) (fun _ _ _ h => h) (Or.inl ⟨by rfl, ?_⟩) (by assumption) ?_
            rotate_left 1
            · (intro w hSw; (try dsimp only at hSw); go_simp; try with_reducible rfl)
            try simp only [Act.put, List.setIfInBounds_toArray, List.set_cons_zero, List.set_cons_succ]
            refine wpAnyH_take (i := 11) (v := ?_) (by simp only [List.getElem?_toArray, List.getElem?_cons_succ, List.getElem?_cons_zero]; rfl) (by kernel_rfl) (by kernel_rfl) (by kernel_rfl) (fun _ _ _ h => h) (Or.inl ⟨by rfl, ?_⟩) (by assumption) ?_
            rotate_left 1
            · (intro w hSw; (try dsimp only at hSw); go_simp; try with_reducible rfl)
            try simp only [Act.put, List.setIfInBounds_toArray, List.set_cons_zero, List.set_cons_succ]
            refine wpAnyH_take (i := 15) (v := ?_) (by simp only [List.getElem?_toArray, List.getElem?_cons_succ, List.getElem?_cons_zero]; rfl) (by kernel_rfl) (by kernel_rfl) (by kernel_rfl) (fun _ _ _ h => h) (Or.inl ⟨by rfl, ?_⟩) (by assumption) ?_
            rotate_left 1
            · (intro w hSw; (try dsimp only at hSw); go_simp; try with_reducible rfl)
            try simp only [Act.put, List.setIfInBounds_toArray, List.set_cons_zero, List.set_cons_succ]
            refine wpAnyH_take (i := 16) (v := ?_) (by simp only [List.getElem?_toArray, List.getElem?_cons_succ, List.getElem?_cons_zero]; rfl) (by kernel_rfl) (by kernel_rfl) (by kernel_rfl) (fun _ _ _ h => h) (Or.inl ⟨by rfl, ?_⟩) (by assumption) ?_
            rotate_left 1
            · (intro w hSw; (try dsimp only at hSw); go_simp; try with_reducible rfl)
            try simp only [Act.put, List.setIfInBounds_toArray, List.set_cons_zero, List.set_cons_succ]
            refine wpAnyH_take (i := 17) (v := ?_) (by simp only [List.getElem?_toArray, List.getElem?_cons_succ, List.getElem?_cons_zero]; rfl) (by kernel_rfl) (by kernel_rfl) (by kernel_rfl) (fun _ _ _ h => h) (Or.inl ⟨by rfl, ?_⟩) (by assumption) ?_
            rotate_left 1
            · (intro w hSw; (try dsimp only at hSw); go_simp; try with_reducible rfl)
            try simp only [Act.put, List.setIfInBounds_toArray, List.set_cons_zero, List.set_cons_succ]
            refine wpAnyH_take (i := 19) (v := ?_) (by simp only [List.getElem?_toArray, List.getElem?_cons_succ, List.getElem?_cons_zero]; rfl) (by kernel_rfl) (by kernel_rfl) (by kernel_rfl) (fun _ _ _ h => h) (Or.inl ⟨by rfl, ?_⟩) (by assumption) ?_
            rotate_left 1
            · (intro w hSw; (try dsimp only at hSw); go_simp; try with_reducible rfl)
            try simp only [Act.put, List.setIfInBounds_toArray, List.set_cons_zero, List.set_cons_succ]
            refine wpAnyH_take (i := 20) (v := ?_) (by simp only [List.getElem?_toArray, List.getElem?_cons_succ, List.getElem?_cons_zero]; rfl) (by kernel_rfl) (by kernel_rfl) (by kernel_rfl) (fun _ _ _ h => h) (Or.inl ⟨by rfl, ?_⟩) (by assumption) ?_
            rotate_left 1
            · (intro w hSw; (try dsimp only at hSw); go_simp; try with_reducible rfl)
            try simp only [Act.put, List.setIfInBounds_toArray, List.set_cons_zero, List.set_cons_succ]
            refine wpAnyH_take (i := 21) (v := ?_) (by simp only [List.getElem?_toArray, List.getElem?_cons_succ, List.getElem?_cons_zero]; rfl) (by kernel_rfl) (by kernel_rfl) (by kernel_rfl) (fun _ _ _ h => h) (Or.inl ⟨by rfl, ?_⟩) (by assumption) ?_
            rotate_left 1
            · (intro w hSw; (try dsimp only at hSw); go_simp; try with_reducible rfl)
            try simp only [Act.put, List.setIfInBounds_toArray, List.set_cons_zero, List.set_cons_succ]
            refine wpAnyH_take (i := 22) (v := ?_) (by simp only [List.getElem?_toArray, List.getElem?_cons_succ, List.getElem?_cons_zero]; rfl) (by kernel_rfl) (by kernel_rfl) (by kernel_rfl) (fun _ _ _ h => h) (Or.inl ⟨by rfl, ?_⟩) (by assumption) ?_
            rotate_left 1
            · (intro w hSw; (try dsimp only at hSw); go_simp; try with_reducible rfl)
            try simp only [Act.put, List.setIfInBounds_toArray, List.set_cons_zero, List.set_cons_succ]
            refine region_rows (fuel := 4) (w0 := ws) (base := ws.heap.size) (stop := 25) (C := [⟨5, 58, [], [], RowF 3 ws.heap.size []⟩, ⟨9, 62, [5], [5], RowF 3 ws.heap.size (intC m.p.metas)⟩, ⟨12, 65, [], [], BufF 3 ws.heap.size [.int .i64 m.n]⟩,
              ⟨13, 66, [9], [9, 12], RowF 3 ws.heap.size (intC m.p.metas ++ [.int .i64 m.n])⟩, ⟨14, 67, [], [], RowF 3 ws.heap.size []⟩, ⟨18, 71, [14], [14], RowF 3 ws.heap.size (intC (natsI m.p.slots))⟩, ⟨23, 76, [], [], BufF 3 ws.heap.size [.int .i64 (n - (m.first : Int))]⟩,
              ⟨24, 77, [18], [18, 23], RowF 3 ws.heap.size (intC (natsI m.p.slots) ++ [.int .i64 (n - (m.first : Int))])⟩])
              (ok_of_cd (by kernel_rfl)) ?hok ?hst ?hS (Below.refl _ _).drew (Nat.le_refl _) ?hend
            case hok =>
              intro x hx
              simp only [List.mem_cons, List.not_mem_nil, or_false] at hx
              rcases hx with rfl | rfl | rfl | rfl | rfl | rfl | rfl | rfl
              · exact rowF_ok _ _ _ _ _ _ _
              · exact rowF_ok _ _ _ _ _ _ _
              · exact bufF_ok _ _ _ _ _ _ _
              · exact rowF_ok _ _ _ _ _ _ _
              · exact rowF_ok _ _ _ _ _ _ _
              · exact rowF_ok _ _ _ _ _ _ _
              · exact bufF_ok _ _ _ _ _ _ _
              · exact rowF_ok _ _ _ _ _ _ _
            case hS =>
              intro w' hb hs
              exact CC.out w' hb
            case hst =>
              have lS : (natsI m.p.slots).length = m.p.slots.length := natsI_len _
              intro x hx
              simp only [List.mem_cons, List.not_mem_nil, or_false] at hx
              rcases hx with rfl | rfl | rfl | rfl | rfl | rfl | rfl | rfl
              · exact step_empty (by simp only [List.getElem?_toArray, List.getElem?_cons_succ, List.getElem?_cons_zero]; rfl) (by rfl) (by rfl) (by rfl) rfl
              · exact step_src (by simp only [List.getElem?_toArray, List.getElem?_cons_succ, List.getElem?_cons_zero]; rfl) (by rfl) (by rfl) 58 61 (by rfl) ⟨5, 58, [], [], RowF 3 ws.heap.size []⟩ (by simp) rfl (by simp) (by simp) [] rfl (by intro z hz; simp only [List.mem_cons, List.not_mem_nil, or_false] at hz; rcases hz with rfl | rfl | rfl | rfl | rfl | rfl | rfl | rfl <;> simp) ws.heap.size P1 _ e1 m.p.metas (by rfl) S1.out (Nat.le_refl _) (by simp; omega) rfl
              · exact step_buf1 (by simp only [List.getElem?_toArray, List.getElem?_cons_succ, List.getElem?_cons_zero]; rfl) (by rfl) (by rfl) 64 (by rfl) (by intro z hz; simp only [List.mem_cons, List.not_mem_nil, or_false] at hz; rcases hz with rfl | rfl | rfl | rfl | rfl | rfl | rfl | rfl <;> simp) _ (by rfl) rfl
              · exact step_add (by simp only [List.getElem?_toArray, List.getElem?_cons_succ, List.getElem?_cons_zero]; rfl) (by rfl) (by rfl) 62 65 (by rfl) ⟨9, 62, [5], [5], RowF 3 ws.heap.size (intC m.p.metas)⟩ (by simp) rfl (by simp) (by simp) (intC m.p.metas) rfl ⟨12, 65, [], [], BufF 3 ws.heap.size [.int .i64 m.n]⟩ (by simp) rfl (by simp) _ rfl (by rw [intC_len]; omega) rfl
              · exact step_empty (by simp only [List.getElem?_toArray, List.getElem?_cons_succ, List.getElem?_cons_zero]; rfl) (by rfl) (by rfl) (by rfl) rfl
              · exact step_src (by simp only [List.getElem?_toArray, List.getElem?_cons_succ, List.getElem?_cons_zero]; rfl) (by rfl) (by rfl) 67 70 (by rfl) ⟨14, 67, [], [], RowF 3 ws.heap.size []⟩ (by simp) rfl (by simp) (by simp) [] rfl (by intro z hz; simp only [List.mem_cons, List.not_mem_nil, or_false] at hz; rcases hz with rfl | rfl | rfl | rfl | rfl | rfl | rfl | rfl <;> simp) ws.heap.size P2 _ e2 (natsI m.p.slots) (by rfl) S2.out (Nat.le_refl _) (by simp [lS]; omega) rfl
              · exact step_buf1 (by simp only [List.getElem?_toArray, List.getElem?_cons_succ, List.getElem?_cons_zero]; rfl) (by rfl) (by rfl) 75 (by rfl) (by intro z hz; simp only [List.mem_cons, List.not_mem_nil, or_false] at hz; rcases hz with rfl | rfl | rfl | rfl | rfl | rfl | rfl | rfl <;> simp) _ (by rfl) rfl
              · exact step_add (by simp only [List.getElem?_toArray, List.getElem?_cons_succ, List.getElem?_cons_zero]; rfl) (by rfl) (by rfl) 71 76 (by rfl) ⟨18, 71, [14], [14], RowF 3 ws.heap.size (intC (natsI m.p.slots))⟩ (by simp) rfl (by simp) (by simp) (intC (natsI m.p.slots)) rfl ⟨23, 76, [], [], BufF 3 ws.heap.size [.int .i64 (n - (m.first : Int))]⟩ (by simp) rfl (by simp) _ rfl (by rw [intC_len, lS]; omega) rfl
            case hend =>
              intro vals w2 hb2 hs2 hF hap
              have f13 := hF ⟨13, 66, [9], [9, 12], RowF 3 ws.heap.size (intC m.p.metas ++ [.int .i64 m.n])⟩ (by simp) (by simp)
              have f24 := hF ⟨24, 77, [18], [18, 23], RowF 3 ws.heap.size (intC (natsI m.p.slots) ++ [.int .i64 (n - (m.first : Int))])⟩ (by simp) (by simp)
              clear hF hap
              simp only at f13 f24
              obtain ⟨B1', n1, d1', hv13, o1⟩ := f13
              obtain ⟨B2', n2, d2', hv24, o2⟩ := f24
              simp only [List.foldl_cons, List.foldl_nil, hv13, hv24]
              generalize vals 5 = x5
              generalize vals 9 = x9
              generalize vals 12 = x12
              generalize vals 14 = x14
              generalize vals 18 = x18
              generalize vals 23 = x23
              clear hv13 hv24
              simp only [Act.put, List.setIfInBounds_toArray, List.set_cons_zero, List.set_cons_succ]
              have hHeld := CC.out w2 hb2
              have K4 := hide (K3.out.below hb2)
              have B4 := hide (B3.out.trans (hb2.mono B3.out.size))
              have v0 := K4.out.cell 0
              have v1 := K4.out.cell 1
              have v2 := K4.out.cell 2
              have v3 := K4.out.cell 3
              have v4 := K4.out.cell 4
              have v5 := K4.out.cell 5
              have z0 := K4.out.frozen 0
              have z1 := K4.out.frozen 1
              have z2 := K4.out.frozen 2
              have z3 := K4.out.frozen 3
              have z4 := K4.out.frozen 4
              have z5 := K4.out.frozen 5
              simp only [List.getElem?_toArray, List.getElem?_cons_succ, List.getElem?_cons_zero] at v0 v1 v2 v3 v4 v5
              have hne6 : g6 ≠ g2 := fun e => hne2 e.symm
              have SF : ∀ w' : World, Kp [g2] w2 w' → w'.cell? ⟨g6, 0, none⟩ = some (.int .i64 m.n) ∧ w'.cell? ⟨g6, 2, none⟩ = some (.int .i64 (m.first : Int)) ∧ w'.cell? ⟨g6, 3, none⟩ = some (.int .i64 (m.p.root : Int)) ∧ w'.cell? ⟨g6, 4, none⟩ = some (.slice P1 m.p.metas.length e1) ∧ w'.cell? ⟨g6, 5, none⟩ = some (.slice P2 m.p.slots.length e2) := fun w' hk => by
                have k := (K6.out.below hb2).kp hk (by simp [hne6])
                exact ⟨k.cell 0, k.cell 2, k.cell 3, k.cell 4, k.cell 5⟩
              have hb6 := six_bel (y0 := .int .i64 n) (y1 := .int .i64 0) (y2 := .int .i64 n) (y3 := .int .i64 (m.p.root : Int)) (y4 := .slice B1' n1 d1') (y5 := .slice B2' n2 d2') B4.out (g := g2) (by rw [HG.out]; exact Nat.le_refl _)
              have K7 := six_blk (y0 := .int .i64 n) (y1 := .int .i64 0) (y2 := .int .i64 n) (y3 := .int .i64 (m.p.root : Int)) (y4 := .slice B1' n1 d1') (y5 := .slice B2' n2 d2') K4.out
              have hk6 := six_kp (w := w2) (g := g2) (y0 := .int .i64 n) (y1 := .int .i64 0) (y2 := .int .i64 n) (y3 := .int .i64 (m.p.root : Int)) (y4 := .slice B1' n1 d1') (y5 := .slice B2' n2 d2')
              refine wpAnyH_take (i := 25) (v := ?_) (by simp only [List.getElem?_toArray, List.getElem?_cons_succ, List.getElem?_cons_zero]; rfl) (by kernel_rfl) (by kernel_rfl) (by kernel_rfl) (fun _ _ _ h => h) (Or.inl ⟨by rfl, ?_⟩) (by assumption) ?_
              rotate_left 1
              · (intro w hSw; (try dsimp only at hSw); go_simp; try with_reducible rfl)
              try simp only [Act.put, List.setIfInBounds_toArray, List.set_cons_zero, List.set_cons_succ]
              refine wpAnyH_take (i := 26) (v := ?_) (by simp only [List.getElem?_toArray, List.getElem?_cons_succ, List.getElem?_cons_zero]; rfl) (by kernel_rfl) (by kernel_rfl) (by kernel_rfl) (fun _ _ _ h => h) (Or.inl ⟨by rfl, ?_⟩) (by assumption) ?_
              rotate_left 1
              · (intro w hSw; (try dsimp only at hSw); go_simp; try with_reducible rfl)
              try simp only [Act.put, List.setIfInBounds_toArray, List.set_cons_zero, List.set_cons_succ]
              refine wpAnyH_ready (rs := [27]) (by kernel_rfl) (by simp) ?_
              refine AllReadyH.cons (by simp only [List.getElem?_toArray, List.getElem?_cons_succ, List.getElem?_cons_zero]; rfl) (fun K hK => ?_) ?_
              rotate_left 1
              · exact AllReadyH.nil
              go_simp
              refine hK.out _ _ ?_ (fun hHeld2 => ?_)
              · ((try dsimp only) <;> (exact SF _ hk6))
              clear hHeld
              have hHeld := hHeld2
              clear hHeld2 hK K
              try simp only [Act.put, List.setIfInBounds_toArray, List.set_cons_zero, List.set_cons_succ]
              refine wpAnyH_take (i := 28) (v := ?_) (by simp only [List.getElem?_toArray, List.getElem?_cons_succ, List.getElem?_cons_zero]; rfl) (by kernel_rfl) (by kernel_rfl) (by kernel_rfl) (fun _ _ _ h => h) (Or.inl ⟨by rfl, ?_⟩) (by assumption) ?_
              rotate_left 1
              · (intro w hSw; (try dsimp only at hSw); go_simp; try with_reducible rfl)
              try simp only [Act.put, List.setIfInBounds_toArray, List.set_cons_zero, List.set_cons_succ]
              refine wpAnyH_done (by kernel_rfl) ?_ _
              refine NoPanic.normal ?_
              rw [intC_app] at o1
              have e2' : n - (m.first : Int) = (((n - (m.first : Int)).toNat : Nat) : Int) := by omega
              rw [intC_app] at o2
              rw [e2', natsI_app] at o2
              have q1 := (nrow_of_own o1).base (Nat.zero_le _)
              have q2 := (nrow_of_own o2).base (Nat.zero_le _)
              have hn1 : n1 = (m.p.metas ++ [m.n]).length := q1.1.symm
              have hn2 : n2 = (m.p.slots ++ [(n - (m.first : Int)).toNat]).length := by rw [← q2.1, natsI_len]
              go_wp2_with fail
              refine ret_meta rfl rfl K7 ⟨?_, hb6⟩
              rw [hfound.out]
              refine ⟨B1', d1', B2', d2', ?_, ?_, ?_⟩
              · have e0 : ((n.toNat : Nat) : Int) = n := by omega
                simp only [metaV, e0, ← hn1, ← hn2]
                rfl
              · have := rdI_kp q1 K4.out hk6
                rwa [← hn1]
              · have := rdI_kp q2 K4.out hk6
                rwa [← hn2]
          · have hnext : Hid (findL n (allR.drop (j + 1)) = findL n allR) := hide (by rw [← FL.out, FD.out, if_neg HMN.out, if_neg (fun h => hin h.2)])
            have BDo := BD.out
            have hwa : IntKind.i64.wrap ((m.first : Int) + 16) = (m.first : Int) + 16 := by rw [IntKind.wrap_i64]; omega
            by_cases i1 : (m.first : Int) ≤ n
            · by_cases i2 : n < (m.first : Int) + 16
              · have i3 : ¬ n < 600 := fun h => hin ⟨i1, i2, h⟩
                clear hin
                go_wp2_with fail
                go_roundw
                case rel => exact ⟨j + 1, by omega, by go_num, hnext.out, HB.out.alloc HB.out.size _⟩
                case measure => simp [intOf]; omega
              · clear hin
                go_wp2_with fail
                go_roundw
                case rel => exact ⟨j + 1, by omega, by go_num, hnext.out, HB.out.alloc HB.out.size _⟩
                case measure => simp [intOf]; omega
            · clear hin
              go_wp2_with fail
              go_roundw
              case rel => exact ⟨j + 1, by omega, by go_num, hnext.out, HB.out.alloc HB.out.size _⟩
              case measure => simp [intOf]; omega
        · have hl : ((m.level : Int) == 1) = false := by rw [beq_eq_false_iff_ne]; omega
          have hnext : Hid (findL n (allR.drop (j + 1)) = findL n allR) := hide (by rw [← FL.out, FD.out, if_neg HMN.out, if_neg (fun h => hl1 h.1)])
          clear hl1
          go_wp2_with fail
          go_roundw
          case rel => exact ⟨j + 1, by omega, by go_num, hnext.out, HB.out.alloc HB.out.size _⟩
          case measure => simp [intOf]; omega
    · have hjk : j = k := by omega
      have hnone : Hid (findL n allR = none) := hide (by
        rw [← FL.out, hjk, ← M2.out.len, List.drop_length]
        rfl)
      have u0 := K2.out.cell 0
      have u1 := K2.out.cell 1
      have u2 := K2.out.cell 2
      have u3 := K2.out.cell 3
      have u4 := K2.out.cell 4
      have u5 := K2.out.cell 5
      have f0 := K2.out.frozen 0
      have f1 := K2.out.frozen 1
      have f2 := K2.out.frozen 2
      have f3 := K2.out.frozen 3
      have f4 := K2.out.frozen 4
      have f5 := K2.out.frozen 5
      simp only [List.getElem?_toArray, List.getElem?_cons_succ, List.getElem?_cons_zero] at u0 u1 u2 u3 u4 u5
      clear hjk
      go_wp2_with fail
      have hb6 := six_bel (y0 := .int .i64 0) (y1 := .int .i64 0) (y2 := .int .i64 0) (y3 := .int .i64 0) (y4 := .slice none 0 0) (y5 := .slice none 0 0) B2.out (g := g2) (by rw [HG.out]; exact Nat.le_refl _)
      refine ret_meta rfl rfl (six_blk K2.out) ⟨?_, hb6⟩
      rw [hnone.out]
      rfl
/-- Find answers as findR does. -/
theorem findR_any (n : Int) (hn : I64 n) (w : World) : Calls Tryd.prog 26 #[.int .i64 n] w fun e w' => findV (findR n) w' e ∧ Below w.heap.size w w' := by
  by_cases h06 : 0 ≤ n ∧ n < 6
  · exact findR_few n hn h06 w
  · have e : findR n = findL n allR := by unfold findR; rw [if_neg h06]
    rw [e]
    by_cases h0 : n < 0
    · exact findL_neg n hn h0 w
    · exact findL_pos n hn (by omega) w
end Go.Proofs.YtbamdibpkkponaaDoor

/- The walks of marlref06.Size, Blocks, Check (printed by gen_smrck.py). -/
namespace Go.Proofs.YtbamdibpkkponaaDoor
open Go.RowKit
attribute [local go_sem ↓] Go.wp_at_zero Go.wp_at_succ
set_option maxRecDepth 100000 in
theorem rsize_any (e c i p x : Int) (A1 A2 : Option Addr) (n1 c1 n2 c2 lo base : Nat) (fs : List FI) (w : World) (h : FisAt lo base w A1 n1 fs) (hn : n1 ≤ 100000) (hn2 : n2 ≤ 100000) (hl : lsN fs ≤ 100000) :
    Calls Tryd.prog 16 #[.agg (partC e c i p x A1 n1 c1 A2 n2 c2)] w fun r w' => r = .returned (.int .i64 ((10 + n2 + (4 * n1 + 2 * lsN fs) : Nat) : Int)) ∧ Below w.heap.size w w' := by
  have H := hide h
  have HL := hide h.len
  clear h
  have K1 := hide (Blk.new w 25 (partC e c i p x A1 n1 c1 A2 n2 c2))
  have B1 := hide ((Below.refl w.heap.size w).alloc (Nat.le_refl _) (.cells (partC e c i p x A1 n1 c1 A2 n2 c2) 25))
  unfold partC at *
  have z5 := K1.out.cell 5
  have z6 := K1.out.cell 6
  simp only [List.getElem?_toArray, List.getElem?_cons_succ, List.getElem?_cons_zero] at z5 z6
  go_enter Tryd.func16, Tryd.ntmps16
  go_upto_region 1 with fail
  generalize w.alloc (.cells #[.int .i64 e, .int .i64 c, .int .i64 i, .int .i64 p, .int .i64 x, .slice A1 n1 c1, .slice A2 n2 c2] 25) = w1 at *
  go_wp2_with fail
  clear z5 z6
  go_loopw [3, 12] (fun y z wr => ∃ j : Nat, j ≤ n1 ∧ z = .int .i64 (j : Int) ∧ y = .int .i64 ((10 + n2 + (4 * j + 2 * lsN (fs.take j)) : Nat) : Int) ∧ Below w1.heap.size w1 wr) (fun _ z _ => n1 - (intOf z).toNat)
  case atStart => exact ⟨0, Nat.zero_le _, rfl, by simp [lsN, sumN], Below.refl _ _⟩
  case round =>
    obtain ⟨j, hj, rfl, rfl, hb⟩ := hrel
    have Hb := hide (B1.out.trans (hb.mono B1.out.size))
    have z5 := (K1.out.below hb).cell 5
    simp only [List.getElem?_toArray, List.getElem?_cons_succ, List.getElem?_cons_zero] at z5
    have HB := hide hb
    clear hb
    by_cases hlt : j < n1
    · obtain ⟨b, off, f, A3, c3, hA, hF, hf, hi, q0, q1, q2⟩ := (H.out.below Hb.out).at hlt
      subst hA
      have HF := hide hf
      have hfl : Hid (f.ls.length ≤ 100000) := hide (Nat.le_trans (lsN_mem hf) hl)
      obtain ⟨m, hm⟩ : ∃ m, m = f.ls.length := ⟨_, rfl⟩
      rw [← hm] at q2 hfl
      have HM := hide hm
      have hm5 := hfl.out
      clear hf hi hF hm hfl
      have hjs : (j : Int) < (n1 : Int) := by omega
      have hj64 : IntKind.i64.wrap (j : Int) = (j : Int) := by rw [IntKind.wrap_i64]; omega
      have e1 := hide (lsN_take HF.out)
      have e2 := hide (lsN_le fs (j + 1))
      have e3 := hide (lsN_le fs j)
      go_wp2_with fail
      go_roundw
      case rel =>
        refine ⟨j + 1, by omega, by go_num, ?_, HB.out⟩
        have e1 := e1.out
        have e2 := e2.out
        have e3 := e3.out
        have hm := HM.out
        first
        | (rw [IntWalk.wrap64_in (10 + (n2 : Int) + (4 * (j : Int) + 2 * (lsN (fs.take j) : Int)) + 4) (by omega), IntWalk.wrap64_in _ (by omega), e1]; congr 1; omega)
        | (rw [IntWalk.wrap64_in _ (by omega), e1]; congr 1; omega)
        | (rw [e1]; congr 1; omega)
      case measure => simp [intOf]; omega
    · have hjn : j = n1 := by omega
      subst hjn
      have e := List.take_of_length_le (Nat.le_of_eq HL.out)
      rw [e]
      go_wp2_with fail
      go_ret
      exact ⟨rfl, Hb.out⟩
set_option maxRecDepth 100000 in
theorem rblocks_any (e c i p x : Int) (A1 A2 : Option Addr) (n1 c1 n2 c2 lo base : Nat) (fs : List FI) (w : World) (h : FisAt lo base w A1 n1 fs) (hn : n1 ≤ 100000) (hn2 : n2 ≤ 100000) (hl : lsN fs ≤ 100000) :
    Calls Tryd.prog 18 #[.agg (partC e c i p x A1 n1 c1 A2 n2 c2)] w fun r w' => r = .returned (.int .i64 ((2 + n2 + lsN fs : Nat) : Int)) ∧ Below w.heap.size w w' := by
  have H := hide h
  have HL := hide h.len
  clear h
  have K1 := hide (Blk.new w 25 (partC e c i p x A1 n1 c1 A2 n2 c2))
  have B1 := hide ((Below.refl w.heap.size w).alloc (Nat.le_refl _) (.cells (partC e c i p x A1 n1 c1 A2 n2 c2) 25))
  unfold partC at *
  have z5 := K1.out.cell 5
  have z6 := K1.out.cell 6
  simp only [List.getElem?_toArray, List.getElem?_cons_succ, List.getElem?_cons_zero] at z5 z6
  go_enter Tryd.func18, Tryd.ntmps18
  go_upto_region 1 with fail
  generalize w.alloc (.cells #[.int .i64 e, .int .i64 c, .int .i64 i, .int .i64 p, .int .i64 x, .slice A1 n1 c1, .slice A2 n2 c2] 25) = w1 at *
  go_wp2_with fail
  clear z5 z6
  go_loopw [3, 12] (fun y z wr => ∃ j : Nat, j ≤ n1 ∧ z = .int .i64 (j : Int) ∧ y = .int .i64 ((2 + n2 + lsN (fs.take j) : Nat) : Int) ∧ Below w1.heap.size w1 wr) (fun _ z _ => n1 - (intOf z).toNat)
  case atStart => exact ⟨0, Nat.zero_le _, rfl, by simp [lsN, sumN], Below.refl _ _⟩
  case round =>
    obtain ⟨j, hj, rfl, rfl, hb⟩ := hrel
    have Hb := hide (B1.out.trans (hb.mono B1.out.size))
    have z5 := (K1.out.below hb).cell 5
    simp only [List.getElem?_toArray, List.getElem?_cons_succ, List.getElem?_cons_zero] at z5
    have HB := hide hb
    clear hb
    by_cases hlt : j < n1
    · obtain ⟨b, off, f, A3, c3, hA, hF, hf, hi, q0, q1, q2⟩ := (H.out.below Hb.out).at hlt
      subst hA
      have HF := hide hf
      have hfl : Hid (f.ls.length ≤ 100000) := hide (Nat.le_trans (lsN_mem hf) hl)
      obtain ⟨m, hm⟩ : ∃ m, m = f.ls.length := ⟨_, rfl⟩
      rw [← hm] at q2 hfl
      have HM := hide hm
      have hm5 := hfl.out
      clear hf hi hF hm hfl
      have hjs : (j : Int) < (n1 : Int) := by omega
      have hj64 : IntKind.i64.wrap (j : Int) = (j : Int) := by rw [IntKind.wrap_i64]; omega
      have e1 := hide (lsN_take HF.out)
      have e2 := hide (lsN_le fs (j + 1))
      have e3 := hide (lsN_le fs j)
      go_wp2_with fail
      go_roundw
      case rel =>
        refine ⟨j + 1, by omega, by go_num, ?_, HB.out⟩
        have e1 := e1.out
        have e2 := e2.out
        have e3 := e3.out
        have hm := HM.out
        first
        | (rw [IntWalk.wrap64_in (10 + (n2 : Int) + (4 * (j : Int) + 2 * (lsN (fs.take j) : Int)) + 4) (by omega), IntWalk.wrap64_in _ (by omega), e1]; congr 1; omega)
        | (rw [IntWalk.wrap64_in _ (by omega), e1]; congr 1; omega)
        | (rw [e1]; congr 1; omega)
      case measure => simp [intOf]; omega
    · have hjn : j = n1 := by omega
      subst hjn
      have e := List.take_of_length_le (Nat.le_of_eq HL.out)
      rw [e]
      go_wp2_with fail
      go_ret
      exact ⟨rfl, Hb.out⟩
theorem badN_R (n : Int) : badN n = (findR n).isNone := by
  unfold badN
  rcases find_agree n with ⟨h1, h2, -⟩ | ⟨m, h1, h2, -⟩
  · rw [h1, h2]; rfl
  · rw [h1, h2]; rfl
theorem any_takeS {l : List Int} {q : Nat} {x : Int} (h : (l.take q).any badN = false) (hx : l[q]? = some x) (hb : badN x = false) : (l.take (q + 1)).any badN = false := by
  rw [List.take_add_one, hx, List.any_append, h]; simp [hb]
set_option maxRecDepth 100000 in
set_option maxHeartbeats 4000000 in
theorem rcheck_any (e c i p x : Int) (A1 A2 : Option Addr) (n1 c1 n2 c2 lo base lo2 base2 : Nat) (fs : List FI) (is : List Int) (w : World) (hf : FisAt lo base w A1 n1 fs) (hi : IntsAt lo2 base2 w A2 n2 is) (hn1 : n1 ≤ 100000) (hn2 : n2 ≤ 100000) (hls : lsN fs ≤ 100000)
    (h64 : ∀ f ∈ fs, ∀ x ∈ f.ls, I64 x) :
    Calls Tryd.prog 13 #[.agg (partC e c i p x A1 n1 c1 A2 n2 c2)] w fun r w' => r = .returned (.int .i64 (checkP e c i p x fs is)) ∧ Below w.heap.size w w' := by
  have HNO := hide (show ¬ gdP e c i p x fs is → checkP e c i p x fs is = 22 from fun h => if_neg h)
  have HYES := hide (show gdP e c i p x fs is → checkP e c i p x fs is = if 88 < szN fs is then 27 else 0 from fun h => if_pos h)
  have HF := hide hf
  have HI := hide hi
  have H64 := hide h64
  have HL1 := hide hf.len
  have HL2 := hide (IntsAt.len hi)
  have HLS := hide hls
  clear hf hi h64 hls
  have K1 := hide (Blk.new w 25 (partC e c i p x A1 n1 c1 A2 n2 c2))
  have B1 := hide ((Below.refl w.heap.size w).alloc (Nat.le_refl _) (.cells (partC e c i p x A1 n1 c1 A2 n2 c2) 25))
  have SZ := hide (fun w' hb => rsize_any e c i p x A1 A2 n1 c1 n2 c2 lo base fs w' (HF.out.below hb) hn1 hn2 HLS.out)
  unfold partC at *
  generalize checkP e c i p x fs is = ck at *
  go_enter Tryd.func13, Tryd.ntmps13
  go_upto_region 1 with fail
  obtain ⟨g1, hg1⟩ : ∃ g, g = w.heap.size := ⟨_, rfl⟩
  rw [← hg1] at K1 ⊢
  clear hg1
  generalize w.alloc (.cells #[.int .i64 e, .int .i64 c, .int .i64 i, .int .i64 p, .int .i64 x, .slice A1 n1 c1, .slice A2 n2 c2] 25) = w1 at *
  have z0 := K1.out.cell 0
  have z1 := K1.out.cell 1
  have z2 := K1.out.cell 2
  have z3 := K1.out.cell 3
  have z4 := K1.out.cell 4
  have z5 := K1.out.cell 5
  simp only [List.getElem?_toArray, List.getElem?_cons_succ, List.getElem?_cons_zero] at z0 z1 z2 z3 z4 z5
  by_cases h0 : e < 0
  · have hr := hide (HNO.out (fun h => by have := h.1.1.1; omega))
    go_wp2_with fail
    go_ret
    exact ⟨by rw [hr.out]; rfl, B1.out⟩
  by_cases h1 : 65535 < e
  · have hr := hide (HNO.out (fun h => by have := h.1.1.2; omega))
    go_wp2_with fail
    go_ret
    exact ⟨by rw [hr.out]; rfl, B1.out⟩
  by_cases h2 : c < 0
  · have hr := hide (HNO.out (fun h => by have := h.1.2.1.1; omega))
    go_wp2_with fail
    go_ret
    exact ⟨by rw [hr.out]; rfl, B1.out⟩
  by_cases h3 : 65535 < c
  · have hr := hide (HNO.out (fun h => by have := h.1.2.1.2; omega))
    go_wp2_with fail
    go_ret
    exact ⟨by rw [hr.out]; rfl, B1.out⟩
  by_cases h4 : p < 1
  · have hr := hide (HNO.out (fun h => by have := h.1.2.2.1.1; omega))
    go_wp2_with fail
    go_ret
    exact ⟨by rw [hr.out]; rfl, B1.out⟩
  by_cases h5 : 64 < p
  · have hr := hide (HNO.out (fun h => by have := h.1.2.2.1.2; omega))
    go_wp2_with fail
    go_ret
    exact ⟨by rw [hr.out]; rfl, B1.out⟩
  by_cases h6 : i < 0
  · have hr := hide (HNO.out (fun h => by have := h.1.2.2.2.1.1; omega))
    go_wp2_with fail
    go_ret
    exact ⟨by rw [hr.out]; rfl, B1.out⟩
  by_cases h7 : p ≤ i
  · have hr := hide (HNO.out (fun h => by have := h.1.2.2.2.1.2; omega))
    go_wp2_with fail
    go_ret
    exact ⟨by rw [hr.out]; rfl, B1.out⟩
  by_cases h8 : x < 0
  · have hr := hide (HNO.out (fun h => by have := h.1.2.2.2.2.1; omega))
    go_wp2_with fail
    go_ret
    exact ⟨by rw [hr.out]; rfl, B1.out⟩
  by_cases h9 : 4095 < x
  · have hr := hide (HNO.out (fun h => by have := h.1.2.2.2.2.2; omega))
    go_wp2_with fail
    go_ret
    exact ⟨by rw [hr.out]; rfl, B1.out⟩
  have HH : Hid (gdH e c i p x) := hide (by unfold gdH; omega)
  go_upto_region 3 with fail
  clear h0 h1 h2 h3 h4 h5 h6 h7 h8 h9 z0 z1 z2 z3 z4
  go_wp2_with fail
  clear z5
  go_loopw [62] (fun y wr => ∃ j : Nat, j ≤ n1 ∧ y = .int .i64 (j : Int) ∧ (∀ f ∈ fs.take j, gdF f) ∧ Below w1.heap.size w1 wr) (fun y _ => n1 - (intOf y).toNat)
  case atStart => exact ⟨0, Nat.zero_le _, rfl, by simp, Below.refl _ _⟩
  case round =>
    obtain ⟨j, hj, rfl, hgd, hb⟩ := hrel
    have HGD := hide hgd
    have HB := hide hb
    have BW := hide (B1.out.trans (hb.mono B1.out.size))
    have z5 := (K1.out.below hb).cell 5
    have z6 := (K1.out.below hb).cell 6
    simp only [List.getElem?_toArray, List.getElem?_cons_succ, List.getElem?_cons_zero] at z5 z6
    clear hgd hb
    by_cases hlt : j < n1
    · obtain ⟨b, off, f, A3, c3, hA, hFr, hfi, hI3, q0, q1, q2⟩ := (HF.out.below BW.out).at hlt
      have HIG := hide hA
      subst hA
      have HFI := hide hfi
      have hlb := Nat.le_trans (lsN_mem hfi) HLS.out
      have H64f := hide (H64.out f (List.mem_of_getElem? hfi))
      have HI3 := hide hI3
      obtain ⟨m5, hm5⟩ : ∃ n, n = f.ls.length := ⟨_, rfl⟩
      rw [← hm5] at q2 HI3 hlb
      have HM5 := hide hm5
      have HBF := hide (show ¬ gdF f → ¬ gdP e c i p x fs is from fun h hg => h (hg.2.1 f (List.mem_of_getElem? HFI.out)))
      obtain ⟨fi, hfi'⟩ : ∃ z, z = f.ino := ⟨_, rfl⟩
      obtain ⟨fv, hfv'⟩ : ∃ z, z = f.ver := ⟨_, rfl⟩
      have HFE := hide (And.intro hfi' hfv')
      rw [← hfi'] at q0
      rw [← hfv'] at q1
      clear hfi hI3 hFr hm5 hfi' hfv' HIG
      have hjs : (j : Int) < (n1 : Int) := by omega
      have hj64 : IntKind.i64.wrap (j : Int) = (j : Int) := by rw [IntKind.wrap_i64]; omega
      go_upto_region 7 with fail
      obtain ⟨w5, hw5⟩ : ∃ W, W = wr.alloc (.cells #[.int .i64 fi, .int .i64 fv, .slice A3 m5 c3] 46) := ⟨_, rfl⟩
      have X5 : Hid (Blk w5 wr.heap.size 46 #[.int .i64 fi, .int .i64 fv, .slice A3 m5 c3]) := hide (by rw [hw5]; exact Blk.new _ _ _)
      have b5 : Below wr.heap.size wr w5 := by rw [hw5]; exact (Below.refl _ _).alloc (Nat.le_refl _) _
      rw [← hw5]
      have B5 := hide (BW.out.trans (b5.mono BW.out.size))
      have B15 := hide (HB.out.trans (b5.mono HB.out.size))
      have HI5 := hide (RwAt.below HI3.out b5)
      obtain ⟨g4, hg4⟩ : ∃ g, g = wr.heap.size := ⟨_, rfl⟩
      rw [← hg4] at X5 ⊢
      clear hw5 b5 hg4 q0 q1 q2 z5 z6 HI3
      have r0 := X5.out.cell 0
      have r1 := X5.out.cell 1
      have r2 := X5.out.cell 2
      simp only [List.getElem?_toArray, List.getElem?_cons_succ, List.getElem?_cons_zero] at r0 r1 r2
      by_cases h0 : fi < 1
      · have hr := hide (HNO.out (HBF.out (fun h => by have := h.1.1; have := HFE.out.1; omega)))
        go_wp2_with fail
        go_ret
        exact ⟨by rw [hr.out]; rfl, B5.out⟩
      by_cases h1 : 200 < fi
      · have hr := hide (HNO.out (HBF.out (fun h => by have := h.1.2; have := HFE.out.1; omega)))
        go_wp2_with fail
        go_ret
        exact ⟨by rw [hr.out]; rfl, B5.out⟩
      by_cases h2 : fv < 0
      · have hr := hide (HNO.out (HBF.out (fun h => by have := h.2.1.1; have := HFE.out.2; omega)))
        go_wp2_with fail
        go_ret
        exact ⟨by rw [hr.out]; rfl, B5.out⟩
      by_cases h3 : 65535 < fv
      · have hr := hide (HNO.out (HBF.out (fun h => by have := h.2.1.2; have := HFE.out.2; omega)))
        go_wp2_with fail
        go_ret
        exact ⟨by rw [hr.out]; rfl, B5.out⟩
      by_cases h4 : (m5 : Int) < 1
      · have hr := hide (HNO.out (HBF.out (fun h => by have := h.2.2.1.1; have := HM5.out; omega)))
        go_wp2_with fail
        go_ret
        exact ⟨by rw [hr.out]; rfl, B5.out⟩
      by_cases h5 : 30 < (m5 : Int)
      · have hr := hide (HNO.out (HBF.out (fun h => by have := h.2.2.1.2; have := HM5.out; omega)))
        go_wp2_with fail
        go_ret
        exact ⟨by rw [hr.out]; rfl, B5.out⟩
      have HG4 := hide (show (1 ≤ f.ino ∧ f.ino ≤ 200) ∧ (0 ≤ f.ver ∧ f.ver ≤ 65535) ∧ (1 ≤ (f.ls.length : Int) ∧ (f.ls.length : Int) ≤ 30) by have h6 := HFE.out.1; have h7 := HFE.out.2; have h8 := HM5.out; omega)
      have hm30 : m5 ≤ 30 := by omega
      go_upto_region 9 with fail
      clear h0 h1 h2 h3 h4 h5 r0 r1
      go_wp2_with fail
      clear r2
      go_loopw [103] (fun y wr => ∃ q : Nat, q ≤ m5 ∧ y = .int .i64 (q : Int) ∧ (f.ls.take q).any badN = false ∧ Below w5.heap.size w5 wr) (fun y _ => m5 - (intOf y).toNat)
      case atStart => exact ⟨0, Nat.zero_le _, rfl, rfl, Below.refl _ _⟩
      case round =>
        obtain ⟨q, hq, rfl, hany, hb⟩ := hrel
        have HANY := hide hany
        have BQ := hide (B5.out.trans (hb.mono B5.out.size))
        have BQ5 := hide hb
        have r2 := (X5.out.below hb).cell 2
        simp only [List.getElem?_toArray, List.getElem?_cons_succ, List.getElem?_cons_zero] at r2
        clear hany hb
        by_cases hlq : q < m5
        · obtain ⟨zn, hzn⟩ : ∃ x, f.ls[q]? = some x := ⟨_, List.getElem?_eq_getElem (by rw [← HM5.out]; exact hlq)⟩
          obtain ⟨b3, off3, hA3, -, hc⟩ := RwAt.at (RwAt.below HI5.out BQ5.out) (by omega) (by decide)
          have zc := hc q (.int .i64 zn) (by rw [intC, List.getElem?_map, hzn]; rfl)
          subst hA3
          have HZN := hide hzn
          have C := hide (findR_any zn (H64f.out zn (List.mem_of_getElem? hzn)) wr)
          have HBN := hide (badN_R zn)
          have hqs : (q : Int) < (m5 : Int) := by omega
          have hq64 : IntKind.i64.wrap (q : Int) = (q : Int) := by rw [IntKind.wrap_i64]; omega
          clear hzn hc
          go_wp2_with fail
          refine C.out.mono ?_
          rintro r w8 ⟨hv, hb⟩
          have B8 := hide (BQ.out.trans (hb.mono BQ.out.size))
          have B85 := hide (BQ5.out.trans (hb.mono BQ5.out.size))
          clear hb zc r2 C
          rcases hfr : findR zn with _ | mm
          · rw [hfr] at hv HBN
            unfold findV at hv
            subst hv
            have hr := hide (HNO.out (HBF.out (fun h => by
              have h9 := h.2.2.2
              have : f.ls.any badN = true := List.any_eq_true.2 ⟨zn, List.mem_of_getElem? HZN.out, HBN.out⟩
              rw [this] at h9
              cases h9)))
            clear hfr HBN
            go_wp2_with fail
            go_ret
            exact ⟨by rw [hr.out]; rfl, B8.out.alloc B8.out.size _⟩
          · rw [hfr] at hv HBN
            obtain ⟨P1, p1, P2, p2, rfl, -⟩ := hv
            have hnx := hide (any_takeS HANY.out HZN.out HBN.out)
            clear hfr HBN
            unfold metaV
            go_wp2_with fail
            go_roundw
            case rel => exact ⟨q + 1, by omega, by go_num, hnx.out, B85.out.alloc B85.out.size _⟩
            case measure => simp [intOf]; omega
        · have hqm : q = m5 := by omega
          have HGF := hide (show gdF f from ⟨HG4.out.1, HG4.out.2.1, HG4.out.2.2, by
            have := HANY.out
            rw [hqm, HM5.out, List.take_length] at this
            exact this⟩)
          clear hqm
          go_wp2_with fail
          go_roundw
          case rel =>
            refine ⟨j + 1, by omega, by go_num, ?_, B15.out.trans (BQ5.out.mono B15.out.size)⟩
            intro f' hf'
            rw [List.take_add_one, HFI.out] at hf'
            rcases List.mem_append.1 hf' with h | h
            · exact HGD.out f' h
            · simp only [Option.toList_some, List.mem_singleton] at h
              rw [h]
              exact HGF.out
          case measure => simp [intOf]; omega
    · have hjn : j = n1 := by omega
      have HGA := hide (show ∀ f ∈ fs, gdF f by
        have := HGD.out
        rw [hjn, List.take_of_length_le (by rw [HL1.out]; exact Nat.le_refl _)] at this
        exact this)
      clear hjn HGD
      go_wp2_with fail
      clear z5 z6
      go_loopw [122] (fun y wq => ∃ q : Nat, q ≤ n2 ∧ y = .int .i64 (q : Int) ∧ (∀ n ∈ is.take q, 1 ≤ n ∧ n ≤ 200) ∧ Below w1.heap.size w1 wq) (fun y _ => n2 - (intOf y).toNat)
      case atStart => exact ⟨0, Nat.zero_le _, rfl, by simp, HB.out⟩
      case round =>
        clear HB BW
        obtain ⟨q, hq, rfl, hin, hb⟩ := hrel
        have HIN := hide hin
        have HB := hide hb
        have BQ := hide (B1.out.trans (hb.mono B1.out.size))
        have CC := hide (K1.out.below hb)
        have z6 := CC.out.cell 6
        simp only [List.getElem?_toArray, List.getElem?_cons_succ, List.getElem?_cons_zero] at z6
        clear hin hb
        by_cases hlq : q < n2
        · obtain ⟨zn, hzn⟩ : ∃ x, is[q]? = some x := ⟨_, List.getElem?_eq_getElem (by rw [HL2.out]; exact hlq)⟩
          obtain ⟨b3, off3, hA3, -, hc⟩ := RwAt.at (RwAt.below HI.out BQ.out) (by omega) (by decide)
          have zc := hc q (.int .i64 zn) (by rw [intC, List.getElem?_map, hzn]; rfl)
          subst hA3
          have HZN := hide hzn
          have hqs : (q : Int) < (n2 : Int) := by omega
          have hq64 : IntKind.i64.wrap (q : Int) = (q : Int) := by rw [IntKind.wrap_i64]; omega
          clear hzn hc
          by_cases h0 : zn < 1
          · have hr := hide (HNO.out (fun h => by have := h.2.2 zn (List.mem_of_getElem? HZN.out); omega))
            go_wp2_with fail
            go_ret
            exact ⟨by rw [hr.out]; rfl, BQ.out⟩
          by_cases h1 : 200 < zn
          · have hr := hide (HNO.out (fun h => by have := h.2.2 zn (List.mem_of_getElem? HZN.out); omega))
            go_wp2_with fail
            go_ret
            exact ⟨by rw [hr.out]; rfl, BQ.out⟩
          have HZB := hide (show 1 ≤ zn ∧ zn ≤ 200 by omega)
          go_wp2_with fail
          go_roundw
          case rel =>
            refine ⟨q + 1, by omega, by go_num, ?_, HB.out⟩
            intro n hn
            rw [List.take_add_one, HZN.out] at hn
            rcases List.mem_append.1 hn with h | h
            · exact HIN.out n h
            · simp only [Option.toList_some, List.mem_singleton] at h
              rw [h]
              exact HZB.out
          case measure => simp [intOf]; omega
        · have hqn : q = n2 := by omega
          have HG := hide (show gdP e c i p x fs is from ⟨HH.out, HGA.out, by
            have := HIN.out
            rw [hqn, List.take_of_length_le (by rw [HL2.out]; exact Nat.le_refl _)] at this
            exact this⟩)
          have hv := hide (HYES.out HG.out)
          have hsz := hide (show szN fs is = 10 + n2 + (4 * n1 + 2 * lsN fs) by unfold szN; rw [HL1.out, HL2.out])
          clear hqn
          have z0 := CC.out.cell 0
          have z1 := CC.out.cell 1
          have z2 := CC.out.cell 2
          have z3 := CC.out.cell 3
          have z4 := CC.out.cell 4
          have z5 := CC.out.cell 5
          simp only [List.getElem?_toArray, List.getElem?_cons_succ, List.getElem?_cons_zero] at z0 z1 z2 z3 z4 z5
          go_wp2_with fail
          refine (SZ.out wr BQ.out).mono ?_
          rintro r w9 ⟨rfl, hb⟩
          have B9 := hide (BQ.out.trans (hb.mono BQ.out.size))
          clear hb z0 z1 z2 z3 z4 z5 z6
          rw [hsz.out] at hv
          obtain ⟨M, hM⟩ : ∃ M, M = 10 + n2 + (4 * n1 + 2 * lsN fs) := ⟨_, rfl⟩
          rw [← hM] at hv ⊢
          clear hM
          by_cases hbig : 88 < M
          · have hbi : (88 : Int) < (M : Int) := by omega
            rw [if_pos hbig] at hv
            clear hbig
            go_wp2_with fail
            go_ret
            exact ⟨by rw [hv.out]; rfl, B9.out⟩
          · have hbi : ¬ (88 : Int) < (M : Int) := by omega
            rw [if_neg hbig] at hv
            clear hbig
            go_wp2_with fail
            go_ret
            exact ⟨by rw [hv.out]; rfl, B9.out⟩
  end Go.Proofs.YtbamdibpkkponaaDoor

/- marlref03.Four, marlref06.two, at; append of bytes onto a row of the call's own. -/
namespace Go.Proofs.YtbamdibpkkponaaDoor
open Go.RowKit
attribute [local go_sem ↓] Go.wp_at_zero Go.wp_at_succ

theorem u8s_le4S (c : Nat) : u8s (leN c 4) = [.int .u8 ((c % 256 : Nat) : Int), .int .u8 ((c / 256 % 256 : Nat) : Int), .int .u8 ((c / 65536 % 256 : Nat) : Int), .int .u8 ((c / 16777216 % 256 : Nat) : Int)] := by
  simp [leN, List.range_succ, u8s, UInt8.toNat_ofNat']
theorem rfourS (n : Nat) (w : World) (hn : n ≤ 1099511627776) :
    Calls Tryd.prog 33 #[.int .i64 n] w fun e w' => ∃ A' c', e = .returned (.slice A' 4 c') ∧ OwnBy w' w.heap.size A' 4 c' (leN n 4) ∧ Below w.heap.size w w' := by
  go_enter Tryd.func33, Tryd.ntmps33
  go_wp2
  go_ret
  refine ⟨_, _, rfl, own_bytesS _ ?_ (Nat.le_refl _) (leN_length _ _) (by omega), (Below.refl _ _).alloc (Nat.le_refl _) _⟩
  rw [u8s_le4S]
  simp
theorem le_take2S (n : Nat) : (leN n 4).take 2 = leN n 2 := by simp [leN, List.range_succ]
theorem le4_tw (n : Nat) (_hn : n < 4294967296) : leN n 4 = tw ((n % 65536 : Nat) : Int) ++ tw ((n / 65536 : Nat) : Int) := by
  rw [tw_nat, tw_nat]
  have h1 : leN n 4 = [UInt8.ofNat (n % 256), UInt8.ofNat (n / 256 % 256), UInt8.ofNat (n / 65536 % 256), UInt8.ofNat (n / 16777216 % 256)] := by
    apply List.ext_getElem (by simp [leN_length])
    intro i h2 h3
    apply UInt8.toNat_inj.1
    simp at h3
    match i, h3 with
    | 0, _ => simp [leN, List.range_succ, UInt8.toNat_ofNat']
    | 1, _ => simp [leN, List.range_succ, UInt8.toNat_ofNat']
    | 2, _ => simp [leN, List.range_succ, UInt8.toNat_ofNat']
    | 3, _ => simp [leN, List.range_succ, UInt8.toNat_ofNat']
  rw [h1, leN_two, leN_two]
  simp only [List.cons_append, List.nil_append, List.cons.injEq, and_true]
  refine ⟨?_, ?_, ?_, ?_⟩ <;> (apply UInt8.toNat_inj.1; rw [UInt8.toNat_ofNat', UInt8.toNat_ofNat']; omega)
theorem rtwo_any (n : Int) (w : World) (h0 : 0 ≤ n) (hn : n ≤ 1099511627776) :
    Calls Tryd.prog 32 #[.int .i64 n] w fun e w' => ∃ A' c', e = .returned (.slice A' 2 c') ∧ OwnBy w' w.heap.size A' 2 c' (tw n) ∧ Below w.heap.size w w' := by
  obtain ⟨m, rfl⟩ := Int.eq_ofNat_of_zero_le h0
  have C := hide (rfourS m w (by omega))
  have hn' : Hid ((m : Int) ≤ 1099511627776) := hide hn
  clear h0 hn
  go_enter Tryd.func32, Tryd.ntmps32
  go_wp2_with fail
  refine C.out.mono ?_
  rintro e w2 ⟨A, c, rfl, ho, hb⟩
  have hc1 : 4 ≤ c := by
    obtain ⟨_, _, e, h1, _⟩ := own_form ho
    injection e with e1 e2 e3
    omega
  have O := hide ho
  have B := hide hb
  clear ho hb C
  have hcut := run_cut_h (P := Tryd.prog) etyB A 4 c w2 2 .i64 (by omega)
  go_wp2_with fail
  go_ret
  refine ⟨A, c, rfl, ?_, B.out⟩
  have h1 := own_head O.out (show 2 ≤ 4 by decide)
  rw [u8s_take, le_take2S] at h1
  rw [tw_nat]
  exact h1
theorem own_byS {w : World} {base n c : Nat} {A : Option Addr} {l : List UInt8} (h : OwnBy w base A n c l) : By w w.heap.size A n l := Sl.of_own h
/-- append of bytes onto a row of the call's own. -/
theorem wpList_appB {ops : Array Oper} {rest : List Oper} {o : Oper} {a : Act} {Q : Exit → Act → World → Prop} {w w0 : World} {base B n m k c : Nat} {A A' : Option Addr} {xs l : List UInt8} (s x : Operand) (O : OwnBy w base A n k xs) (hr : By w B A' m l) (hB : Below base w0 w) (hgd : o.guard = none)
    (ho : o.op = .call { callee := .builtin .append, args := #[s, x], argTypes := #[30, 30] }) (hs : a.eval s = .slice A n k) (hx : a.eval x = .slice A' m c) (hb : n + m ≤ 100000) (hsz : base ≤ w.heap.size)
    (h : ∀ A2 k2 w2, Hid (OwnBy w2 base A2 (n + m) k2 (xs ++ l)) → Hid (Below base w0 w2) → wpList Tryd.prog ops Q rest (a.put o.dst (.slice A2 (n + m) k2)) w2) : wpList Tryd.prog ops Q (o :: rest) a w := by
  refine wpList_app w hgd s x 30 ho etyB base (.slice A n k) n _ hs O B A' m c _ hx hr (u8s_one _) (by omega) hsz ?_
  intro A2 k2 w2 hown hg _
  refine h A2 k2 w2 (hide ?_) (hide (hB.grown hg hsz (fun g hg => (O.lt g hg).1)))
  rw [OwnBy, u8s_append]
  exact hown
theorem by_lit1 (w : World) (z : Int) : By (w.alloc (.cells #[.int .u8 (z % 256)] 5)) (w.heap.size + 1) (some ⟨w.heap.size, 0, none⟩) 1 [b8 z] := by
  have h := sl_newS w (u8s [b8 z]) 5
  have e : u8s [b8 z] = [.int .u8 (z % 256)] := by rw [← b8_val]; rfl
  unfold By
  rw [e] at h ⊢
  exact h
theorem by_lit2 (w : World) (z y : Int) : By (w.alloc (.cells #[.int .u8 (z % 256), .int .u8 (y % 256)] 5)) (w.heap.size + 1) (some ⟨w.heap.size, 0, none⟩) 2 [b8 z, b8 y] := by
  have h := sl_newS w (u8s [b8 z, b8 y]) 5
  have e : u8s [b8 z, b8 y] = [.int .u8 (z % 256), .int .u8 (y % 256)] := by rw [← b8_val, ← b8_val]; rfl
  unfold By
  rw [e] at h ⊢
  exact h
theorem by_lit1n (w : World) (z y : Int) (h : y = z % 256) : By (w.alloc (.cells #[.int .u8 y] 5)) (w.heap.size + 1) (some ⟨w.heap.size, 0, none⟩) 1 [b8 z] := by subst h; exact by_lit1 w z
theorem by_lit2n (w : World) (z y z' y' : Int) (h : y = z % 256) (h' : y' = z' % 256) : By (w.alloc (.cells #[.int .u8 y, .int .u8 y'] 5)) (w.heap.size + 1) (some ⟨w.heap.size, 0, none⟩) 2 [b8 z, b8 z'] := by subst h h'; exact by_lit2 w z z'
theorem bel_al {w0 w : World} {B : Nat} (h : Below B w0 w) (hB : B ≤ w.heap.size) (o : Obj) : Below B w0 (w.alloc o) := h.alloc hB o
/-- .. with a box that is none of the row's. -/
theorem wpList_appBX {ops : Array Oper} {rest : List Oper} {o : Oper} {a : Act} {Q : Exit → Act → World → Prop} {w w0 : World} {base B n m k c g : Nat} {t : TypeId} {cs : Array Value} {A A' : Option Addr} {xs l : List UInt8} (s x : Operand) (O : OwnBy w base A n k xs) (hr : By w B A' m l) (hB : Below base w0 w) (hX : Blk w g t cs) (hne : t ≠ 5) (hgd : o.guard = none)
    (ho : o.op = .call { callee := .builtin .append, args := #[s, x], argTypes := #[30, 30] }) (hs : a.eval s = .slice A n k) (hx : a.eval x = .slice A' m c) (hb : n + m ≤ 100000) (hsz : base ≤ w.heap.size)
    (h : ∀ A2 k2 w2, Hid (OwnBy w2 base A2 (n + m) k2 (xs ++ l)) → Hid (Below base w0 w2) → Hid (Blk w2 g t cs) → wpList Tryd.prog ops Q rest (a.put o.dst (.slice A2 (n + m) k2)) w2) : wpList Tryd.prog ops Q (o :: rest) a w := by
  refine wpList_app w hgd s x 30 ho etyB base (.slice A n k) n _ hs O B A' m c _ hx hr (u8s_one _) (by omega) hsz ?_
  intro A2 k2 w2 hown hg _
  refine h A2 k2 w2 (hide ?_) (hide (hB.grown hg hsz (fun g hg => (O.lt g hg).1))) (hide (blk_gr hX hg (fun e => ?_)))
  · rw [OwnBy, u8s_append]
    exact hown
  · rcases O.2 with ⟨hv, -⟩ | ⟨g', cap, cur, hv, -, hB', -⟩
    · rw [hv] at e; cases e
    · rw [hv] at e
      simp only [Value.ownBlock, Option.some.injEq] at e
      subst e
      exact hne (Blk.type hX hB').1
theorem own_al {w : World} {base n k : Nat} {A : Option Addr} {xs : List UInt8} (h : OwnBy w base A n k xs) (o : Obj) : OwnBy (w.alloc o) base A n k xs := own_bel h ((Below.refl _ _).alloc (Nat.le_refl _) o)
/-- The byte at a place; 0 behind the end. -/
theorem at_any (A : Option Addr) (n c i : Nat) (l : List UInt8) (B : Nat) (w : World) (h : By w B A n l) (hi : i ≤ 1000000) (hn : n ≤ 1000000) :
    Calls Tryd.prog 34 #[.slice A n c, .int .i64 (i : Int)] w fun e w' => e = .returned (.int .i64 (nx 1 (l.drop i) : Nat)) ∧ w' = w := by
  have hl := h.len
  rw [u8s_length] at hl
  by_cases hlt : i < n
  · have hlt' : (i : Int) < (n : Int) := by omega
    obtain ⟨ad, u, rfl, hb, hu, hcell⟩ := Sl.get h hlt
    rw [u8s, List.getElem?_map, List.getElem?_eq_getElem (by omega)] at hu
    simp only [Option.map_some, Option.some.injEq] at hu
    subst hu
    have hd : l.drop i = l[i]'(by omega) :: l.drop (i + 1) := List.drop_eq_getElem_cons (by omega)
    have HV := hide (show nx 1 (l.drop i) = (l[i]'(by omega)).toNat by rw [hd, nx1])
    generalize l[i]'(by omega) = b at *
    rw [HV.out]
    clear h hd HV
    have hi64 : IntKind.i64.wrap (i : Int) = (i : Int) := by rw [IntKind.wrap_i64]; omega
    go_enter Tryd.func34, Tryd.ntmps34
    go_wp2_with fail
    go_ret
    refine ⟨?_, rfl⟩
    show Ending.returned (Value.int .i64 (wrap64 (b.toNat : Int))) = _
    rw [IntWalk.wrap64_in _ (by have := b.toNat_lt; omega)]
  · have hlt' : ¬ (i : Int) < (n : Int) := by omega
    have HV := hide (show nx 1 (l.drop i) = 0 by rw [List.drop_of_length_le (by omega)]; rfl)
    rw [HV.out]
    clear h
    go_enter Tryd.func34, Tryd.ntmps34
    go_wp2_with fail
    go_ret
    exact ⟨rfl, rfl⟩
theorem at_anyZ (A : Option Addr) (n c i : Nat) (l : List UInt8) (B : Nat) (w : World) (h : By w B A n l) (hi : i ≤ 1000000) (hn : n ≤ 1000000) (z : Int) (hz : z = (i : Int)) :
    Calls Tryd.prog 34 #[.slice A n c, .int .i64 z] w fun e w' => e = .returned (.int .i64 (nx 1 (l.drop i) : Nat)) ∧ w' = w := by
  subst hz
  exact at_any A n c i l B w h hi hn
end Go.Proofs.YtbamdibpkkponaaDoor
