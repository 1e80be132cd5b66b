/- The walk over the reference's Find: the list. -/
import Derived.Test.YtakflabokbaibaaDoorFinW4
set_option linter.unusedVariables false
set_option linter.unusedSimpArgs false
namespace Go.Proofs.YtakflabokbaibaaDoor
open Go.RowKit
attribute [local go_sem ↓] Go.wp_at_zero Go.wp_at_succ

theorem findL_drop {n : Int} {m : MetaL} {l : List MetaL} {j : Nat} (hm : l[j]? = some m) : findL n (l.drop j) = (if m.n = n then some m
    else if m.level = 1 ∧ (m.first : Int) ≤ n ∧ n < (m.first : Int) + 16 ∧ n < 600 then some ⟨n, 0, n.toNat, ⟨m.p.root, m.p.metas ++ [m.n], m.p.slots ++ [(n - (m.first : Int)).toNat]⟩⟩
    else findL n (l.drop (j + 1))) := by
  have hlt := (List.getElem?_eq_some_iff.1 hm)
  rw [List.drop_eq_getElem_cons hlt.1, hlt.2]
  rfl
theorem all_item_bd {j : Nat} {m : MetaL} (hm : allR[j]? = some m) : -602 ≤ m.n ∧ m.n < 0 ∧ m.first < 600 := by
  have := List.all_eq_true.1 all_bd m (List.mem_of_getElem? hm)
  simpa using this
theorem all_lens : allR.all (fun m => decide (m.p.metas.length ≤ 5) && decide (m.p.slots.length ≤ 5) && decide (m.level ≤ 3) && decide (m.p.root ≤ 10)) = true := by decide +kernel
theorem all_item_len {j : Nat} {m : MetaL} (hm : allR[j]? = some m) : m.p.metas.length ≤ 5 ∧ m.p.slots.length ≤ 5 ∧ m.level ≤ 3 ∧ m.p.root ≤ 10 := by
  have := List.all_eq_true.1 all_lens m (List.mem_of_getElem? hm)
  simp only [Bool.and_eq_true, decide_eq_true_eq] at this
  exact ⟨this.1.1.1, this.1.1.2, this.1.2, this.2⟩
theorem rdI_kp {w w' : World} {A : Option Addr} {n g : Nat} {l : List Int} {cs : Array Value} (h : RdI w A n l) (hB : Blk w g 41 cs) (hk : Kp [g] w w') : RdI w' A n l := by
  refine h.kp hk (fun g' hg' hin => ?_)
  rw [List.mem_singleton] at hin
  subst hin
  rcases h.2 with ⟨rfl, -⟩ | ⟨g2, cur, rfl, -, h2, -⟩
  · cases hg'
  · simp only [Value.ownBlock, Option.some.injEq] at hg'
    subst hg'
    have h6 : some (Obj.cells cur 3) = some (Obj.cells cs 41) := h2.symm.trans hB
    simp at h6
section
variable {w w0 : World} {g B : Nat} {t : TypeId} {x0 x1 x2 x3 x4 x5 y0 y1 y2 y3 y4 y5 : Value}
/-- Six cells written. -/
abbrev six (w : World) (g : Nat) (y0 y1 y2 y3 y4 y5 : Value) : World := (((((w.setCell ⟨g, 0, none⟩ y0).setCell ⟨g, 1, none⟩ y1).setCell ⟨g, 2, none⟩ y2).setCell ⟨g, 3, none⟩ y3).setCell ⟨g, 4, none⟩ y4).setCell ⟨g, 5, none⟩ y5
theorem six_blk (h : Blk w g t #[x0, x1, x2, x3, x4, x5]) : Blk (six w g y0 y1 y2 y3 y4 y5) g t #[y0, y1, y2, y3, y4, y5] := by
  have := (((((h.set 0 y0).set 1 y1).set 2 y2).set 3 y3).set 4 y4).set 5 y5
  simpa using this
theorem six_bel (h : Below B w0 w) (hB : B ≤ g) : Below B w0 (six w g y0 y1 y2 y3 y4 y5) :=
  (((((h.setCell (p := ⟨g, 0, none⟩) hB y0).setCell (p := ⟨g, 1, none⟩) hB y1).setCell (p := ⟨g, 2, none⟩) hB y2).setCell (p := ⟨g, 3, none⟩) hB y3).setCell (p := ⟨g, 4, none⟩) hB y4).setCell (p := ⟨g, 5, none⟩) hB y5
theorem six_kp : Kp [g] w (six w g y0 y1 y2 y3 y4 y5) :=
  ((((((Kp.refl [g] w).set (p := ⟨g, 0, none⟩) (.inl (by simp)) y0).set (p := ⟨g, 1, none⟩) (.inl (by simp)) y1).set (p := ⟨g, 2, none⟩) (.inl (by simp)) y2).set (p := ⟨g, 3, none⟩) (.inl (by simp)) y3).set (p := ⟨g, 4, none⟩) (.inl (by simp)) y4).set (p := ⟨g, 5, none⟩) (.inl (by simp)) y5
end
set_option maxHeartbeats 2000000 in
set_option maxRecDepth 100000 in
theorem findL_neg (n : Int) (hn : I64 n) (h06 : n < 0) (w : World) : Calls Tryd.prog 16 #[.int .i64 n] w fun e w' => findV (findL n allR) w' e ∧ Below w.heap.size w w' := by
  have HN := hide hn
  have H06 := hide h06
  have d1 : ¬ (0 : Int) ≤ n := by omega
  clear hn h06
  go_enter Tryd.func16, Tryd.ntmps16
  go_wp2_with fail
  have k0 := Blk.new w 41 #[.int .i64 0, .int .i64 0, .int .i64 0, .int .i64 0, .slice none 0 0, .slice none 0 0]
  have b0 := (Below.refl w.heap.size w).alloc (Nat.le_refl _) (.cells #[.int .i64 0, .int .i64 0, .int .i64 0, .int .i64 0, .slice none 0 0, .slice none 0 0] 41)
  refine (all_any _).mono ?_
  rintro e w1 ⟨A, k, c, rfl, h1, hk, hb1⟩
  have K1 := hide (k0.below hb1)
  have M1 := hide (h1.base (base' := w.heap.size + 1) (by simp))
  have B1 := hide (b0.trans (hb1.mono b0.size))
  clear k0 b0 h1 hb1
  obtain ⟨g2, hg2⟩ : ∃ g2, g2 = w.heap.size := ⟨_, rfl⟩
  rw [← hg2] at K1 M1
  rw [← hg2]
  have HG := hide hg2
  clear hg2
  go_wp2_with fail
  go_loopw [21] (fun x wr => ∃ j : Nat, j ≤ k ∧ x = .int .i64 (j : Int) ∧ findL n (allR.drop j) = findL n allR ∧ Below w1.heap.size w1 wr) (fun x _ => k - (intOf x).toNat)
  case atStart => exact ⟨0, Nat.zero_le _, rfl, by rw [List.drop_zero], Below.refl _ _⟩
  case round =>
    obtain ⟨j, hj, rfl, hfl, hb⟩ := hrel
    have FL := hide hfl
    have HB := hide hb
    have K2 := hide (K1.out.below hb)
    have M2 := hide (M1.out.below hb)
    have B2 := hide (B1.out.trans (hb.mono B1.out.size))
    clear hfl hb
    by_cases hlt : j < k
    · obtain ⟨g, m, P1, e1, P2, e2, hA, hg1, hg2, hm, r1, r2, hc⟩ := M2.out.at hlt
      subst hA
      have c0 := hc 0 _ rfl
      have c1 := hc 1 _ rfl
      have c2 := hc 2 _ rfl
      have c3 := hc 3 _ rfl
      have c4 := hc 4 _ rfl
      have c5 := hc 5 _ rfl
      simp only [Nat.add_zero] at c0
      have R1 := hide r1
      have R2 := hide r2
      have FD := hide (findL_drop (n := n) hm)
      have BD := hide (all_item_bd hm)
      have BL := hide (all_item_len hm)
      have HG2 := hide hg2
      clear hc r1 r2 hm hg1 hg2
      have u0 := K2.out.cell 0
      have u1 := K2.out.cell 1
      have u2 := K2.out.cell 2
      have u3 := K2.out.cell 3
      have u4 := K2.out.cell 4
      have u5 := K2.out.cell 5
      have f0 := K2.out.frozen 0
      have f1 := K2.out.frozen 1
      have f2 := K2.out.frozen 2
      have f3 := K2.out.frozen 3
      have f4 := K2.out.frozen 4
      have f5 := K2.out.frozen 5
      simp only [List.getElem?_toArray, List.getElem?_cons_succ, List.getElem?_cons_zero] at u0 u1 u2 u3 u4 u5
      have hlt2 := K2.out.lt
      have hne2 : g2 ≠ wr.heap.size := by omega
      by_cases hmn : m.n = n
      · have hd : (m.n == n) = true := by rw [beq_iff_eq]; exact hmn
        have HMN := hide hmn
        clear hmn
        go_wp2_with fail
        have hb6 := six_bel (y0 := .int .i64 m.n) (y1 := .int .i64 (m.level : Int)) (y2 := .int .i64 (m.first : Int)) (y3 := .int .i64 (m.p.root : Int)) (y4 := .slice P1 m.p.metas.length e1) (y5 := .slice P2 m.p.slots.length e2) B2.out (g := g2) (by rw [HG.out]; exact Nat.le_refl _)
        have hal := (Below.refl _ (six wr g2 (.int .i64 m.n) (.int .i64 (m.level : Int)) (.int .i64 (m.first : Int)) (.int .i64 (m.p.root : Int)) (.slice P1 m.p.metas.length e1) (.slice P2 m.p.slots.length e2))).alloc (Nat.le_refl _) (.cells #[.int .i64 m.n, .int .i64 (m.level : Int), .int .i64 (m.first : Int), .int .i64 (m.p.root : Int), .slice P1 m.p.metas.length e1, .slice P2 m.p.slots.length e2] 41)
        refine ret_meta rfl rfl ((six_blk K2.out).alloc _) ⟨?_, hb6.alloc hb6.size _⟩
        rw [show findL n allR = some m by rw [← FL.out, FD.out, if_pos HMN.out]]
        exact ⟨P1, e1, P2, e2, rfl, (rdI_kp R1.out K2.out six_kp).below hal, (rdI_kp R2.out K2.out six_kp).below hal⟩
      · have hd : (m.n == n) = false := by rw [beq_eq_false_iff_ne]; exact hmn
        have HMN := hide hmn
        clear hmn u0 u1 u2 u3 u4 u5 f0 f1 f2 f3 f4 f5
        by_cases hl1 : m.level = 1
        · have hl : ((m.level : Int) == 1) = true := by rw [beq_iff_eq]; omega
          clear hl1
          have hnf : ¬ (m.first : Int) ≤ n := by have := H06.out; omega
          have hnext : Hid (findL n (allR.drop (j + 1)) = findL n allR) := hide (by rw [← FL.out, FD.out, if_neg HMN.out, if_neg (fun h => hnf h.2.1)])
          go_wp2_with fail
          go_roundw
          case rel => exact ⟨j + 1, by omega, by go_num, hnext.out, HB.out.alloc HB.out.size _⟩
          case measure => simp [intOf]; omega
        · have hl : ((m.level : Int) == 1) = false := by rw [beq_eq_false_iff_ne]; omega
          have hnext : Hid (findL n (allR.drop (j + 1)) = findL n allR) := hide (by rw [← FL.out, FD.out, if_neg HMN.out, if_neg (fun h => hl1 h.1)])
          clear hl1
          go_wp2_with fail
          go_roundw
          case rel => exact ⟨j + 1, by omega, by go_num, hnext.out, HB.out.alloc HB.out.size _⟩
          case measure => simp [intOf]; omega
    · have hjk : j = k := by omega
      have hnone : Hid (findL n allR = none) := hide (by
        rw [← FL.out, hjk, ← M2.out.len, List.drop_length]
        rfl)
      have u0 := K2.out.cell 0
      have u1 := K2.out.cell 1
      have u2 := K2.out.cell 2
      have u3 := K2.out.cell 3
      have u4 := K2.out.cell 4
      have u5 := K2.out.cell 5
      have f0 := K2.out.frozen 0
      have f1 := K2.out.frozen 1
      have f2 := K2.out.frozen 2
      have f3 := K2.out.frozen 3
      have f4 := K2.out.frozen 4
      have f5 := K2.out.frozen 5
      simp only [List.getElem?_toArray, List.getElem?_cons_succ, List.getElem?_cons_zero] at u0 u1 u2 u3 u4 u5
      clear hjk
      go_wp2_with fail
      have hb6 := six_bel (y0 := .int .i64 0) (y1 := .int .i64 0) (y2 := .int .i64 0) (y3 := .int .i64 0) (y4 := .slice none 0 0) (y5 := .slice none 0 0) B2.out (g := g2) (by rw [HG.out]; exact Nat.le_refl _)
      refine ret_meta rfl rfl (six_blk K2.out) ⟨?_, hb6⟩
      rw [hnone.out]
      rfl
set_option maxHeartbeats 2000000 in
set_option maxRecDepth 100000 in
theorem findL_pos (n : Int) (hn : I64 n) (h06 : 6 ≤ n) (w : World) : Calls Tryd.prog 16 #[.int .i64 n] w fun e w' => findV (findL n allR) w' e ∧ Below w.heap.size w w' := by
  have HN := hide hn
  have H06 := hide h06
  have d1 : (0 : Int) ≤ n := by omega
  have d2 : ¬ n < 6 := by omega
  clear hn h06
  go_enter Tryd.func16, Tryd.ntmps16
  go_wp2_with fail
  have k0 := Blk.new w 41 #[.int .i64 0, .int .i64 0, .int .i64 0, .int .i64 0, .slice none 0 0, .slice none 0 0]
  have b0 := (Below.refl w.heap.size w).alloc (Nat.le_refl _) (.cells #[.int .i64 0, .int .i64 0, .int .i64 0, .int .i64 0, .slice none 0 0, .slice none 0 0] 41)
  refine (all_any _).mono ?_
  rintro e w1 ⟨A, k, c, rfl, h1, hk, hb1⟩
  have K1 := hide (k0.below hb1)
  have M1 := hide (h1.base (base' := w.heap.size + 1) (by simp))
  have B1 := hide (b0.trans (hb1.mono b0.size))
  clear k0 b0 h1 hb1
  obtain ⟨g2, hg2⟩ : ∃ g2, g2 = w.heap.size := ⟨_, rfl⟩
  rw [← hg2] at K1 M1
  rw [← hg2]
  have HG := hide hg2
  clear hg2
  go_wp2_with fail
  go_loopw [21] (fun x wr => ∃ j : Nat, j ≤ k ∧ x = .int .i64 (j : Int) ∧ findL n (allR.drop j) = findL n allR ∧ Below w1.heap.size w1 wr) (fun x _ => k - (intOf x).toNat)
  case atStart => exact ⟨0, Nat.zero_le _, rfl, by rw [List.drop_zero], Below.refl _ _⟩
  case round =>
    obtain ⟨j, hj, rfl, hfl, hb⟩ := hrel
    have FL := hide hfl
    have HB := hide hb
    have K2 := hide (K1.out.below hb)
    have M2 := hide (M1.out.below hb)
    have B2 := hide (B1.out.trans (hb.mono B1.out.size))
    clear hfl hb
    by_cases hlt : j < k
    · obtain ⟨g, m, P1, e1, P2, e2, hA, hg1, hg2, hm, r1, r2, hc⟩ := M2.out.at hlt
      subst hA
      have c0 := hc 0 _ rfl
      have c1 := hc 1 _ rfl
      have c2 := hc 2 _ rfl
      have c3 := hc 3 _ rfl
      have c4 := hc 4 _ rfl
      have c5 := hc 5 _ rfl
      simp only [Nat.add_zero] at c0
      have R1 := hide r1
      have R2 := hide r2
      have FD := hide (findL_drop (n := n) hm)
      have BD := hide (all_item_bd hm)
      have BL := hide (all_item_len hm)
      have HG2 := hide hg2
      clear hc r1 r2 hm hg1 hg2
      have u0 := K2.out.cell 0
      have u1 := K2.out.cell 1
      have u2 := K2.out.cell 2
      have u3 := K2.out.cell 3
      have u4 := K2.out.cell 4
      have u5 := K2.out.cell 5
      have f0 := K2.out.frozen 0
      have f1 := K2.out.frozen 1
      have f2 := K2.out.frozen 2
      have f3 := K2.out.frozen 3
      have f4 := K2.out.frozen 4
      have f5 := K2.out.frozen 5
      simp only [List.getElem?_toArray, List.getElem?_cons_succ, List.getElem?_cons_zero] at u0 u1 u2 u3 u4 u5
      have hlt2 := K2.out.lt
      have hne2 : g2 ≠ wr.heap.size := by omega
      by_cases hmn : m.n = n
      · have hd : (m.n == n) = true := by rw [beq_iff_eq]; exact hmn
        have HMN := hide hmn
        clear hmn
        go_wp2_with fail
        have hb6 := six_bel (y0 := .int .i64 m.n) (y1 := .int .i64 (m.level : Int)) (y2 := .int .i64 (m.first : Int)) (y3 := .int .i64 (m.p.root : Int)) (y4 := .slice P1 m.p.metas.length e1) (y5 := .slice P2 m.p.slots.length e2) B2.out (g := g2) (by rw [HG.out]; exact Nat.le_refl _)
        have hal := (Below.refl _ (six wr g2 (.int .i64 m.n) (.int .i64 (m.level : Int)) (.int .i64 (m.first : Int)) (.int .i64 (m.p.root : Int)) (.slice P1 m.p.metas.length e1) (.slice P2 m.p.slots.length e2))).alloc (Nat.le_refl _) (.cells #[.int .i64 m.n, .int .i64 (m.level : Int), .int .i64 (m.first : Int), .int .i64 (m.p.root : Int), .slice P1 m.p.metas.length e1, .slice P2 m.p.slots.length e2] 41)
        refine ret_meta rfl rfl ((six_blk K2.out).alloc _) ⟨?_, hb6.alloc hb6.size _⟩
        rw [show findL n allR = some m by rw [← FL.out, FD.out, if_pos HMN.out]]
        exact ⟨P1, e1, P2, e2, rfl, (rdI_kp R1.out K2.out six_kp).below hal, (rdI_kp R2.out K2.out six_kp).below hal⟩
      · have hd : (m.n == n) = false := by rw [beq_eq_false_iff_ne]; exact hmn
        have HMN := hide hmn
        clear hmn u0 u1 u2 u3 u4 u5 f0 f1 f2 f3 f4 f5
        by_cases hl1 : m.level = 1
        · have hl : ((m.level : Int) == 1) = true := by rw [beq_iff_eq]; omega
          have HL1 := hide hl1
          clear hl1
          by_cases hin : (m.first : Int) ≤ n ∧ n < (m.first : Int) + 16 ∧ n < 600
          · obtain ⟨i1, i2, i3⟩ := hin
            have BDo := BD.out
            have BLo := BL.out
            have hwa : IntKind.i64.wrap ((m.first : Int) + 16) = (m.first : Int) + 16 := by rw [IntKind.wrap_i64]; omega
            have hws : IntKind.i64.wrap (n - (m.first : Int)) = n - (m.first : Int) := by rw [IntKind.wrap_i64]; omega
            have hfound : Hid (findL n allR = some ⟨n, 0, n.toNat, ⟨m.p.root, m.p.metas ++ [m.n], m.p.slots ++ [(n - (m.first : Int)).toNat]⟩⟩) := hide (by rw [← FL.out, FD.out, if_neg HMN.out, if_pos ⟨HL1.out, i1, i2, i3⟩])
            have g1' := HG2.out
            go_wp2_with fail
            have K6 := hide (Blk.new wr 41 #[.int .i64 m.n, .int .i64 (m.level : Int), .int .i64 (m.first : Int), .int .i64 (m.p.root : Int), .slice P1 m.p.metas.length e1, .slice P2 m.p.slots.length e2])
            have hal := (Below.refl wr.heap.size wr).alloc (Nat.le_refl _) (.cells #[.int .i64 m.n, .int .i64 (m.level : Int), .int .i64 (m.first : Int), .int .i64 (m.p.root : Int), .slice P1 m.p.metas.length e1, .slice P2 m.p.slots.length e2] 41)
            have K3 := hide (K2.out.below hal)
            have Q1 := hide (R1.out.below hal)
            have Q2 := hide (R2.out.below hal)
            have B3 := hide (B2.out.trans (hal.mono B2.out.size))
            generalize hg6 : wr.heap.size = g6 at K6 hne2 ⊢
            generalize wr.alloc _ = ws at *
            clear hal hg6 M2 K2 R1 R2 HG2 FD FL c0 c1 c2 c3 c4 c5 hlt2 g1'
            have S1 := hide (sl_of_nrow Q1.out)
            have S2 := hide (sl_of_nrow Q2.out)
            have cC : ∀ w' : World, Below ws.heap.size ws w' → w'.cell? ⟨g6, 0, none⟩ = some (.int .i64 m.n) ∧ w'.cell? ⟨g6, 2, none⟩ = some (.int .i64 (m.first : Int)) ∧ w'.cell? ⟨g6, 3, none⟩ = some (.int .i64 (m.p.root : Int)) ∧ w'.cell? ⟨g6, 4, none⟩ = some (.slice P1 m.p.metas.length e1) ∧ w'.cell? ⟨g6, 5, none⟩ = some (.slice P2 m.p.slots.length e2) := fun w' hb => by
              have k := K6.out.below hb
              exact ⟨k.cell 0, k.cell 2, k.cell 3, k.cell 4, k.cell 5⟩
            have s0 := cC _ (Below.refl _ _).drew
            have CC := hide cC
            clear cC
            refine wp_region_noPanic ?_
            refine wp_region_held_drew (S := (fun w' => w'.cell? ⟨g6, 0, none⟩ = some (.int .i64 m.n) ∧ w'.cell? ⟨g6, 2, none⟩ = some (.int .i64 (m.first : Int)) ∧ w'.cell? ⟨g6, 3, none⟩ = some (.int .i64 (m.p.root : Int)) ∧ w'.cell? ⟨g6, 4, none⟩ = some (.slice P1 m.p.metas.length e1) ∧ w'.cell? ⟨g6, 5, none⟩ = some (.slice P2 m.p.slots.length e2))) (by kernel_rfl) ?_ (fun hHeld => ?_)
            · ((try dsimp only) <;> (first | trivial | assumption | go_keep))
            refine wpAnyH_take (i := 0) (v := ?_) (by simp only [List.getElem?_toArray, List.getElem?_cons_succ, List.getElem?_cons_zero]; rfl) (by kernel_rfl) (by kernel_rfl) (by kernel_rfl) (fun _ _ _ h => h) (Or.inl ⟨by rfl, ?_⟩) (by assumption) ?_
            rotate_left 1
            · (intro w hSw; (try dsimp only at hSw); go_simp; try with_reducible rfl)
            try simp only [Act.put, List.setIfInBounds_toArray, List.set_cons_zero, List.set_cons_succ]
            refine wpAnyH_take (i := 1) (v := ?_) (by simp only [List.getElem?_toArray, List.getElem?_cons_succ, List.getElem?_cons_zero]; rfl) (by kernel_rfl) (by kernel_rfl) (by kernel_rfl) (fun _ _ _ h => h) (Or.inl ⟨by rfl, ?_⟩) (by assumption) ?_
            rotate_left 1
            · (intro w hSw; (try dsimp only at hSw); go_simp; try with_reducible rfl)
            try simp only [Act.put, List.setIfInBounds_toArray, List.set_cons_zero, List.set_cons_succ]
            refine wpAnyH_take (i := 2) (v := ?_) (by simp only [List.getElem?_toArray, List.getElem?_cons_succ, List.getElem?_cons_zero]; rfl) (by kernel_rfl) (by kernel_rfl) (by kernel_rfl) (fun _ _ _ h => h) (Or.inl ⟨by rfl, ?_⟩) (by assumption) ?_
            rotate_left 1
            · (intro w hSw; (try dsimp only at hSw); go_simp; try with_reducible rfl)
            try simp only [Act.put, List.setIfInBounds_toArray, List.set_cons_zero, List.set_cons_succ]
            refine wpAnyH_take (i := 3) (v := ?_) (by simp only [List.getElem?_toArray, List.getElem?_cons_succ, List.getElem?_cons_zero]; rfl) (by kernel_rfl) (by kernel_rfl) (by kernel_rfl) (fun _ _ _ h => h) (Or.inl ⟨by rfl, ?_⟩) (by assumption) ?_
            rotate_left 1
            · (intro w hSw; (try dsimp only at hSw); go_simp; try with_reducible rfl)
            try simp only [Act.put, List.setIfInBounds_toArray, List.set_cons_zero, List.set_cons_succ]
            refine wpAnyH_take (i := 4) (v := ?_) (by simp only [List.getElem?_toArray, List.getElem?_cons_succ, List.getElem?_cons_zero]; rfl) (by kernel_rfl) (by kernel_rfl) (by kernel_rfl) (fun _ _ _ h => h) (Or.inl ⟨by rfl, ?_⟩) (by assumption) ?_
            rotate_left 1
            · (intro w hSw; (try dsimp only at hSw); go_simp; try with_reducible rfl)
            try simp only [Act.put, List.setIfInBounds_toArray, List.set_cons_zero, List.set_cons_succ]
            refine wpAnyH_take (i := 6) (v := ?_) (by simp only [List.getElem?_toArray, List.getElem?_cons_succ, List.getElem?_cons_zero]; rfl) (by kernel_rfl) (by kernel_rfl) (by kernel_rfl) (fun _ _ _ h => h) (Or.inl ⟨by rfl, ?_⟩) (by assumption) ?_
            rotate_left 1
            · (intro w hSw; (try dsimp only at hSw); go_simp; try with_reducible rfl)
            try simp only [Act.put, List.setIfInBounds_toArray, List.set_cons_zero, List.set_cons_succ]
            refine wpAnyH_take (i := 7) (v := ?_) (by simp only [List.getElem?_toArray, List.getElem?_cons_succ, List.getElem?_cons_zero]; rfl) (by kernel_rfl) (by kernel_rfl) (by kernel_rfl) (fun _ _ _ h => h) (Or.inl ⟨by rfl, ?_⟩) (by assumption) ?_
            rotate_left 1
            · (intro w hSw; (try dsimp only at hSw); go_simp; try with_reducible rfl)
            try simp only [Act.put, List.setIfInBounds_toArray, List.set_cons_zero, List.set_cons_succ]
            refine wpAnyH_take (i := 8) (v := ?_) (by simp only [List.getElem?_toArray, List.getElem?_cons_succ, List.getElem?_cons_zero]; rfl) (by kernel_rfl) (by kernel_rfl) (by kernel_rfl) (fun _ _ _ h => h) (Or.inl ⟨by rfl, ?_⟩) (by assumption) ?_
            rotate_left 1
            · (intro w hSw; (try dsimp only at hSw); go_simp; try with_reducible rfl)
            try simp only [Act.put, List.setIfInBounds_toArray, List.set_cons_zero, List.set_cons_succ]
            refine wpAnyH_take (i := 10) (v := ?_) (by simp only [List.getElem?_toArray, List.getElem?_cons_succ, List.getElem?_cons_zero]; rfl) (by kernel_rfl) (by kernel_rfl) (by kernel_rfl) (fun _ _ _ h => h) (Or.inl ⟨by rfl, ?_⟩) (by assumption) ?_
            rotate_left 1
            · (intro w hSw; (try dsimp only at hSw); go_simp; try with_reducible rfl)
            try simp only [Act.put, List.setIfInBounds_toArray, List.set_cons_zero, List.set_cons_succ]
            refine wpAnyH_take (i := 11) (v := ?_) (by simp only [List.getElem?_toArray, List.getElem?_cons_succ, List.getElem?_cons_zero]; rfl) (by kernel_rfl) (by kernel_rfl) (by kernel_rfl) (fun _ _ _ h => h) (Or.inl ⟨by rfl, ?_⟩) (by assumption) ?_
            rotate_left 1
            · (intro w hSw; (try dsimp only at hSw); go_simp; try with_reducible rfl)
            try simp only [Act.put, List.setIfInBounds_toArray, List.set_cons_zero, List.set_cons_succ]
            refine wpAnyH_take (i := 15) (v := ?_) (by simp only [List.getElem?_toArray, List.getElem?_cons_succ, List.getElem?_cons_zero]; rfl) (by kernel_rfl) (by kernel_rfl) (by kernel_rfl) (fun _ _ _ h => h) (Or.inl ⟨by rfl, ?_⟩) (by assumption) ?_
            rotate_left 1
            · (intro w hSw; (try dsimp only at hSw); go_simp; try with_reducible rfl)
            try simp only [Act.put, List.setIfInBounds_toArray, List.set_cons_zero, List.set_cons_succ]
            refine wpAnyH_take (i := 16) (v := ?_) (by simp only [List.getElem?_toArray, List.getElem?_cons_succ, List.getElem?_cons_zero]; rfl) (by kernel_rfl) (by kernel_rfl) (by kernel_rfl) (fun _ _ _ h => h) (Or.inl ⟨by rfl, ?_⟩) (by assumption) ?_
            rotate_left 1
            · (intro w hSw; (try dsimp only at hSw); go_simp; try with_reducible rfl)
            try simp only [Act.put, List.setIfInBounds_toArray, List.set_cons_zero, List.set_cons_succ]
            refine wpAnyH_take (i := 17) (v := ?_) (by simp only [List.getElem?_toArray, List.getElem?_cons_succ, List.getElem?_cons_zero]; rfl) (by kernel_rfl) (by kernel_rfl) (by kernel_rfl) (fun _ _ _ h => h) (Or.inl ⟨by rfl, ?_⟩) (by assumption) ?_
            rotate_left 1
            · (intro w hSw; (try dsimp only at hSw); go_simp; try with_reducible rfl)
            try simp only [Act.put, List.setIfInBounds_toArray, List.set_cons_zero, List.set_cons_succ]
            refine wpAnyH_take (i := 19) (v := ?_) (by simp only [List.getElem?_toArray, List.getElem?_cons_succ, List.getElem?_cons_zero]; rfl) (by kernel_rfl) (by kernel_rfl) (by kernel_rfl) (fun _ _ _ h => h) (Or.inl ⟨by rfl, ?_⟩) (by assumption) ?_
            rotate_left 1
            · (intro w hSw; (try dsimp only at hSw); go_simp; try with_reducible rfl)
            try simp only [Act.put, List.setIfInBounds_toArray, List.set_cons_zero, List.set_cons_succ]
            refine wpAnyH_take (i := 20) (v := ?_) (by simp only [List.getElem?_toArray, List.getElem?_cons_succ, List.getElem?_cons_zero]; rfl) (by kernel_rfl) (by kernel_rfl) (by kernel_rfl) (fun _ _ _ h => h) (Or.inl ⟨by rfl, ?_⟩) (by assumption) ?_
            rotate_left 1
            · (intro w hSw; (try dsimp only at hSw); go_simp; try with_reducible rfl)
            try simp only [Act.put, List.setIfInBounds_toArray, List.set_cons_zero, List.set_cons_succ]
            refine wpAnyH_take (i := 21) (v := ?_) (by simp only [List.getElem?_toArray, List.getElem?_cons_succ, List.getElem?_cons_zero]; rfl) (by kernel_rfl) (by kernel_rfl) (by kernel_rfl) (fun _ _ _ h => h) (Or.inl ⟨by rfl, ?_⟩) (by assumption) ?_
            rotate_left 1
            · (intro w hSw; (try dsimp only at hSw); go_simp; try with_reducible rfl)
            try simp only [Act.put, List.setIfInBounds_toArray, List.set_cons_zero, List.set_cons_succ]
            refine wpAnyH_take (i := 22) (v := ?_) (by simp only [List.getElem?_toArray, List.getElem?_cons_succ, List.getElem?_cons_zero]; rfl) (by kernel_rfl) (by kernel_rfl) (by kernel_rfl) (fun _ _ _ h => h) (Or.inl ⟨by rfl, ?_⟩) (by assumption) ?_
            rotate_left 1
            · (intro w hSw; (try dsimp only at hSw); go_simp; try with_reducible rfl)
            try simp only [Act.put, List.setIfInBounds_toArray, List.set_cons_zero, List.set_cons_succ]
            refine region_rows (fuel := 4) (w0 := ws) (base := ws.heap.size) (stop := 25) (C := [⟨5, 58, [], [], RowF 3 ws.heap.size []⟩, ⟨9, 62, [5], [5], RowF 3 ws.heap.size (intC m.p.metas)⟩, ⟨12, 65, [], [], BufF 3 ws.heap.size [.int .i64 m.n]⟩,
              ⟨13, 66, [9], [9, 12], RowF 3 ws.heap.size (intC m.p.metas ++ [.int .i64 m.n])⟩, ⟨14, 67, [], [], RowF 3 ws.heap.size []⟩, ⟨18, 71, [14], [14], RowF 3 ws.heap.size (intC (natsI m.p.slots))⟩, ⟨23, 76, [], [], BufF 3 ws.heap.size [.int .i64 (n - (m.first : Int))]⟩,
              ⟨24, 77, [18], [18, 23], RowF 3 ws.heap.size (intC (natsI m.p.slots) ++ [.int .i64 (n - (m.first : Int))])⟩])
              (ok_of_cd (by kernel_rfl)) ?hok ?hst ?hS (Below.refl _ _).drew (Nat.le_refl _) ?hend
            case hok =>
              intro x hx
              simp only [List.mem_cons, List.not_mem_nil, or_false] at hx
              rcases hx with rfl | rfl | rfl | rfl | rfl | rfl | rfl | rfl
              · exact rowF_ok _ _ _ _ _ _ _
              · exact rowF_ok _ _ _ _ _ _ _
              · exact bufF_ok _ _ _ _ _ _ _
              · exact rowF_ok _ _ _ _ _ _ _
              · exact rowF_ok _ _ _ _ _ _ _
              · exact rowF_ok _ _ _ _ _ _ _
              · exact bufF_ok _ _ _ _ _ _ _
              · exact rowF_ok _ _ _ _ _ _ _
            case hS =>
              intro w' hb hs
              exact CC.out w' hb
            case hst =>
              have lS : (natsI m.p.slots).length = m.p.slots.length := natsI_len _
              intro x hx
              simp only [List.mem_cons, List.not_mem_nil, or_false] at hx
              rcases hx with rfl | rfl | rfl | rfl | rfl | rfl | rfl | rfl
              · exact step_empty (by simp only [List.getElem?_toArray, List.getElem?_cons_succ, List.getElem?_cons_zero]; rfl) (by rfl) (by rfl) (by rfl) rfl
              · exact step_src (by simp only [List.getElem?_toArray, List.getElem?_cons_succ, List.getElem?_cons_zero]; rfl) (by rfl) (by rfl) 58 61 (by rfl) ⟨5, 58, [], [], RowF 3 ws.heap.size []⟩ (by simp) rfl (by simp) (by simp) [] rfl (by intro z hz; simp only [List.mem_cons, List.not_mem_nil, or_false] at hz; rcases hz with rfl | rfl | rfl | rfl | rfl | rfl | rfl | rfl <;> simp) ws.heap.size P1 _ e1 m.p.metas (by rfl) S1.out (Nat.le_refl _) (by simp; omega) rfl
              · exact step_buf1 (by simp only [List.getElem?_toArray, List.getElem?_cons_succ, List.getElem?_cons_zero]; rfl) (by rfl) (by rfl) 64 (by rfl) (by intro z hz; simp only [List.mem_cons, List.not_mem_nil, or_false] at hz; rcases hz with rfl | rfl | rfl | rfl | rfl | rfl | rfl | rfl <;> simp) _ (by rfl) rfl
              · exact step_add (by simp only [List.getElem?_toArray, List.getElem?_cons_succ, List.getElem?_cons_zero]; rfl) (by rfl) (by rfl) 62 65 (by rfl) ⟨9, 62, [5], [5], RowF 3 ws.heap.size (intC m.p.metas)⟩ (by simp) rfl (by simp) (by simp) (intC m.p.metas) rfl ⟨12, 65, [], [], BufF 3 ws.heap.size [.int .i64 m.n]⟩ (by simp) rfl (by simp) _ rfl (by rw [intC_len]; omega) rfl
              · exact step_empty (by simp only [List.getElem?_toArray, List.getElem?_cons_succ, List.getElem?_cons_zero]; rfl) (by rfl) (by rfl) (by rfl) rfl
              · exact step_src (by simp only [List.getElem?_toArray, List.getElem?_cons_succ, List.getElem?_cons_zero]; rfl) (by rfl) (by rfl) 67 70 (by rfl) ⟨14, 67, [], [], RowF 3 ws.heap.size []⟩ (by simp) rfl (by simp) (by simp) [] rfl (by intro z hz; simp only [List.mem_cons, List.not_mem_nil, or_false] at hz; rcases hz with rfl | rfl | rfl | rfl | rfl | rfl | rfl | rfl <;> simp) ws.heap.size P2 _ e2 (natsI m.p.slots) (by rfl) S2.out (Nat.le_refl _) (by simp [lS]; omega) rfl
              · exact step_buf1 (by simp only [List.getElem?_toArray, List.getElem?_cons_succ, List.getElem?_cons_zero]; rfl) (by rfl) (by rfl) 75 (by rfl) (by intro z hz; simp only [List.mem_cons, List.not_mem_nil, or_false] at hz; rcases hz with rfl | rfl | rfl | rfl | rfl | rfl | rfl | rfl <;> simp) _ (by rfl) rfl
              · exact step_add (by simp only [List.getElem?_toArray, List.getElem?_cons_succ, List.getElem?_cons_zero]; rfl) (by rfl) (by rfl) 71 76 (by rfl) ⟨18, 71, [14], [14], RowF 3 ws.heap.size (intC (natsI m.p.slots))⟩ (by simp) rfl (by simp) (by simp) (intC (natsI m.p.slots)) rfl ⟨23, 76, [], [], BufF 3 ws.heap.size [.int .i64 (n - (m.first : Int))]⟩ (by simp) rfl (by simp) _ rfl (by rw [intC_len, lS]; omega) rfl
            case hend =>
              intro vals w2 hb2 hs2 hF hap
              have f13 := hF ⟨13, 66, [9], [9, 12], RowF 3 ws.heap.size (intC m.p.metas ++ [.int .i64 m.n])⟩ (by simp) (by simp)
              have f24 := hF ⟨24, 77, [18], [18, 23], RowF 3 ws.heap.size (intC (natsI m.p.slots) ++ [.int .i64 (n - (m.first : Int))])⟩ (by simp) (by simp)
              clear hF hap
              simp only at f13 f24
              obtain ⟨B1', n1, d1', hv13, o1⟩ := f13
              obtain ⟨B2', n2, d2', hv24, o2⟩ := f24
              simp only [List.foldl_cons, List.foldl_nil, hv13, hv24]
              generalize vals 5 = x5
              generalize vals 9 = x9
              generalize vals 12 = x12
              generalize vals 14 = x14
              generalize vals 18 = x18
              generalize vals 23 = x23
              clear hv13 hv24
              simp only [Act.put, List.setIfInBounds_toArray, List.set_cons_zero, List.set_cons_succ]
              have hHeld := CC.out w2 hb2
              have K4 := hide (K3.out.below hb2)
              have B4 := hide (B3.out.trans (hb2.mono B3.out.size))
              have v0 := K4.out.cell 0
              have v1 := K4.out.cell 1
              have v2 := K4.out.cell 2
              have v3 := K4.out.cell 3
              have v4 := K4.out.cell 4
              have v5 := K4.out.cell 5
              have z0 := K4.out.frozen 0
              have z1 := K4.out.frozen 1
              have z2 := K4.out.frozen 2
              have z3 := K4.out.frozen 3
              have z4 := K4.out.frozen 4
              have z5 := K4.out.frozen 5
              simp only [List.getElem?_toArray, List.getElem?_cons_succ, List.getElem?_cons_zero] at v0 v1 v2 v3 v4 v5
              have hne6 : g6 ≠ g2 := fun e => hne2 e.symm
              have SF : ∀ w' : World, Kp [g2] w2 w' → w'.cell? ⟨g6, 0, none⟩ = some (.int .i64 m.n) ∧ w'.cell? ⟨g6, 2, none⟩ = some (.int .i64 (m.first : Int)) ∧ w'.cell? ⟨g6, 3, none⟩ = some (.int .i64 (m.p.root : Int)) ∧ w'.cell? ⟨g6, 4, none⟩ = some (.slice P1 m.p.metas.length e1) ∧ w'.cell? ⟨g6, 5, none⟩ = some (.slice P2 m.p.slots.length e2) := fun w' hk => by
                have k := (K6.out.below hb2).kp hk (by simp [hne6])
                exact ⟨k.cell 0, k.cell 2, k.cell 3, k.cell 4, k.cell 5⟩
              have hb6 := six_bel (y0 := .int .i64 n) (y1 := .int .i64 0) (y2 := .int .i64 n) (y3 := .int .i64 (m.p.root : Int)) (y4 := .slice B1' n1 d1') (y5 := .slice B2' n2 d2') B4.out (g := g2) (by rw [HG.out]; exact Nat.le_refl _)
              have K7 := six_blk (y0 := .int .i64 n) (y1 := .int .i64 0) (y2 := .int .i64 n) (y3 := .int .i64 (m.p.root : Int)) (y4 := .slice B1' n1 d1') (y5 := .slice B2' n2 d2') K4.out
              have hk6 := six_kp (w := w2) (g := g2) (y0 := .int .i64 n) (y1 := .int .i64 0) (y2 := .int .i64 n) (y3 := .int .i64 (m.p.root : Int)) (y4 := .slice B1' n1 d1') (y5 := .slice B2' n2 d2')
              refine wpAnyH_take (i := 25) (v := ?_) (by simp only [List.getElem?_toArray, List.getElem?_cons_succ, List.getElem?_cons_zero]; rfl) (by kernel_rfl) (by kernel_rfl) (by kernel_rfl) (fun _ _ _ h => h) (Or.inl ⟨by rfl, ?_⟩) (by assumption) ?_
              rotate_left 1
              · (intro w hSw; (try dsimp only at hSw); go_simp; try with_reducible rfl)
              try simp only [Act.put, List.setIfInBounds_toArray, List.set_cons_zero, List.set_cons_succ]
              refine wpAnyH_take (i := 26) (v := ?_) (by simp only [List.getElem?_toArray, List.getElem?_cons_succ, List.getElem?_cons_zero]; rfl) (by kernel_rfl) (by kernel_rfl) (by kernel_rfl) (fun _ _ _ h => h) (Or.inl ⟨by rfl, ?_⟩) (by assumption) ?_
              rotate_left 1
              · (intro w hSw; (try dsimp only at hSw); go_simp; try with_reducible rfl)
              try simp only [Act.put, List.setIfInBounds_toArray, List.set_cons_zero, List.set_cons_succ]
              refine wpAnyH_ready (rs := [27]) (by kernel_rfl) (by simp) ?_
              refine AllReadyH.cons (by simp only [List.getElem?_toArray, List.getElem?_cons_succ, List.getElem?_cons_zero]; rfl) (fun K hK => ?_) ?_
              rotate_left 1
              · exact AllReadyH.nil
              go_simp
              refine hK.out _ _ ?_ (fun hHeld2 => ?_)
              · ((try dsimp only) <;> (exact SF _ hk6))
              clear hHeld
              have hHeld := hHeld2
              clear hHeld2 hK K
              try simp only [Act.put, List.setIfInBounds_toArray, List.set_cons_zero, List.set_cons_succ]
              refine wpAnyH_take (i := 28) (v := ?_) (by simp only [List.getElem?_toArray, List.getElem?_cons_succ, List.getElem?_cons_zero]; rfl) (by kernel_rfl) (by kernel_rfl) (by kernel_rfl) (fun _ _ _ h => h) (Or.inl ⟨by rfl, ?_⟩) (by assumption) ?_
              rotate_left 1
              · (intro w hSw; (try dsimp only at hSw); go_simp; try with_reducible rfl)
              try simp only [Act.put, List.setIfInBounds_toArray, List.set_cons_zero, List.set_cons_succ]
              refine wpAnyH_done (by kernel_rfl) ?_ _
              refine NoPanic.normal ?_
              rw [intC_app] at o1
              have e2' : n - (m.first : Int) = (((n - (m.first : Int)).toNat : Nat) : Int) := by omega
              rw [intC_app] at o2
              rw [e2', natsI_app] at o2
              have q1 := (nrow_of_own o1).base (Nat.zero_le _)
              have q2 := (nrow_of_own o2).base (Nat.zero_le _)
              have hn1 : n1 = (m.p.metas ++ [m.n]).length := q1.1.symm
              have hn2 : n2 = (m.p.slots ++ [(n - (m.first : Int)).toNat]).length := by rw [← q2.1, natsI_len]
              go_wp2_with fail
              refine ret_meta rfl rfl K7 ⟨?_, hb6⟩
              rw [hfound.out]
              refine ⟨B1', d1', B2', d2', ?_, ?_, ?_⟩
              · have e0 : ((n.toNat : Nat) : Int) = n := by omega
                simp only [metaV, e0, ← hn1, ← hn2]
                rfl
              · have := rdI_kp q1 K4.out hk6
                rwa [← hn1]
              · have := rdI_kp q2 K4.out hk6
                rwa [← hn2]
          · have hnext : Hid (findL n (allR.drop (j + 1)) = findL n allR) := hide (by rw [← FL.out, FD.out, if_neg HMN.out, if_neg (fun h => hin h.2)])
            have BDo := BD.out
            have hwa : IntKind.i64.wrap ((m.first : Int) + 16) = (m.first : Int) + 16 := by rw [IntKind.wrap_i64]; omega
            by_cases i1 : (m.first : Int) ≤ n
            · by_cases i2 : n < (m.first : Int) + 16
              · have i3 : ¬ n < 600 := fun h => hin ⟨i1, i2, h⟩
                clear hin
                go_wp2_with fail
                go_roundw
                case rel => exact ⟨j + 1, by omega, by go_num, hnext.out, HB.out.alloc HB.out.size _⟩
                case measure => simp [intOf]; omega
              · clear hin
                go_wp2_with fail
                go_roundw
                case rel => exact ⟨j + 1, by omega, by go_num, hnext.out, HB.out.alloc HB.out.size _⟩
                case measure => simp [intOf]; omega
            · clear hin
              go_wp2_with fail
              go_roundw
              case rel => exact ⟨j + 1, by omega, by go_num, hnext.out, HB.out.alloc HB.out.size _⟩
              case measure => simp [intOf]; omega
        · have hl : ((m.level : Int) == 1) = false := by rw [beq_eq_false_iff_ne]; omega
          have hnext : Hid (findL n (allR.drop (j + 1)) = findL n allR) := hide (by rw [← FL.out, FD.out, if_neg HMN.out, if_neg (fun h => hl1 h.1)])
          clear hl1
          go_wp2_with fail
          go_roundw
          case rel => exact ⟨j + 1, by omega, by go_num, hnext.out, HB.out.alloc HB.out.size _⟩
          case measure => simp [intOf]; omega
    · have hjk : j = k := by omega
      have hnone : Hid (findL n allR = none) := hide (by
        rw [← FL.out, hjk, ← M2.out.len, List.drop_length]
        rfl)
      have u0 := K2.out.cell 0
      have u1 := K2.out.cell 1
      have u2 := K2.out.cell 2
      have u3 := K2.out.cell 3
      have u4 := K2.out.cell 4
      have u5 := K2.out.cell 5
      have f0 := K2.out.frozen 0
      have f1 := K2.out.frozen 1
      have f2 := K2.out.frozen 2
      have f3 := K2.out.frozen 3
      have f4 := K2.out.frozen 4
      have f5 := K2.out.frozen 5
      simp only [List.getElem?_toArray, List.getElem?_cons_succ, List.getElem?_cons_zero] at u0 u1 u2 u3 u4 u5
      clear hjk
      go_wp2_with fail
      have hb6 := six_bel (y0 := .int .i64 0) (y1 := .int .i64 0) (y2 := .int .i64 0) (y3 := .int .i64 0) (y4 := .slice none 0 0) (y5 := .slice none 0 0) B2.out (g := g2) (by rw [HG.out]; exact Nat.le_refl _)
      refine ret_meta rfl rfl (six_blk K2.out) ⟨?_, hb6⟩
      rw [hnone.out]
      rfl
/-- Find answers as findR does. -/
theorem findR_any (n : Int) (hn : I64 n) (w : World) : Calls Tryd.prog 16 #[.int .i64 n] w fun e w' => findV (findR n) w' e ∧ Below w.heap.size w w' := by
  by_cases h06 : 0 ≤ n ∧ n < 6
  · exact findR_few n hn h06 w
  · have e : findR n = findL n allR := by unfold findR; rw [if_neg h06]
    rw [e]
    by_cases h0 : n < 0
    · exact findL_neg n hn h0 w
    · exact findL_pos n hn (by omega) w
end Go.Proofs.YtakflabokbaibaaDoor
