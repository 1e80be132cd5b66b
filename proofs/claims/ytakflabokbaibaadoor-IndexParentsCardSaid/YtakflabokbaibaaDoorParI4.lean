/- The walk over IndexParents (printed by gen_par4.py). -/
import Derived.Test.YtakflabokbaibaaDoorFinLW4
import Derived.Test.YtakflabokbaibaaDoorOneI4
import Derived.Test.YtakflabokbaibaaDoorParS
import Derived.Test.YtakflabokbaibaaDoorCO4
set_option linter.unusedVariables false
set_option linter.unusedSimpArgs false
namespace Go.Proofs.YtakflabokbaibaaDoor
open Go.RowKit
attribute [local go_sem ↓] Go.wp_at_zero Go.wp_at_succ

set_option maxHeartbeats 1000000 in
set_option maxRecDepth 100000 in
theorem parents_no (n : Int) (hn : I64 n) (hr : findR n = none) (ht : toP n = none) (w : World) (sp : SpanAt w) : Calls Tryd.prog 5 #[.int .i64 n] w fun e w' => e = .returned (.bool true) ∧ Below w.heap.size w w' := by
  have SP := hide sp
  have HN := hide hn
  clear sp hn
  go_enter Tryd.func5, Tryd.ntmps5
  go_wp2_with fail
  refine (awake04 w SP.out).mono ?_
  rintro e w1 ⟨rfl, hb1⟩
  have B1 := hide hb1
  clear hb1
  go_wp2_with fail
  refine (parent_no n HN.out ht w1 (SP.out.bel B1.out)).mono ?_
  rintro e w2 ⟨rfl, hb2⟩
  have B2 := hide (B1.out.trans (hb2.mono B1.out.size))
  clear hb2
  go_wp2_with fail
  have C := findR_any n HN.out w2
  rw [hr] at C
  refine C.mono ?_
  clear C
  rintro e w3 ⟨he, hb3⟩
  have e' : e = _ := he
  subst e'
  have B4 := hide ((B2.out.trans (hb3.mono B2.out.size)).alloc (Nat.le_trans B2.out.size hb3.size) (.cells #[.int .i64 0, .int .i64 0, .int .i64 0, .int .i64 0, .slice none 0 0, .slice none 0 0] 41))
  clear hb3 he
  go_wp2_with fail
  go_ret
  exact ⟨rfl, B4.out⟩
set_option maxHeartbeats 1000000 in
set_option maxRecDepth 100000 in
theorem parents_root (n : Int) (hn : I64 n) (m : MetaL) (hr : findR n = some m) (ht : toP n = some m.p) (hl0 : m.p.metas = []) (w : World) (sp : SpanAt w) : Calls Tryd.prog 5 #[.int .i64 n] w fun e w' => e = .returned (.bool true) ∧ Below w.heap.size w w' := by
  have hl : m.p.metas.length = 0 := by rw [hl0]; rfl
  have hsl : m.p.slots.length = 0 := by rw [← (toP_len ht).1]; exact hl
  have hr8 := (toP_len ht).2.2
  have SP := hide sp
  have HN := hide hn
  clear sp hn
  go_enter Tryd.func5, Tryd.ntmps5
  go_wp2_with fail
  refine (awake04 w SP.out).mono ?_
  rintro e w1 ⟨rfl, hb1⟩
  have B1 := hide hb1
  clear hb1
  go_wp2_with fail
  refine (parent_root n HN.out ht hl0 w1 (SP.out.bel B1.out)).mono ?_
  rintro e w2 ⟨rfl, hb2⟩
  have B2 := hide (B1.out.trans (hb2.mono B1.out.size))
  clear hb2
  go_wp2_with fail
  have C := findR_any n HN.out w2
  rw [hr] at C
  refine C.mono ?_
  clear C
  rintro e w3 ⟨he, hb3⟩
  obtain ⟨E1, d1, E2, d2, rfl, r1, r2⟩ := he
  unfold metaV
  rw [hsl] at r2 ⊢
  rw [hl] at r1 ⊢
  have hal := (Below.refl w3.heap.size w3).alloc (Nat.le_refl _) (.cells #[.int .i64 m.n, .int .i64 (m.level : Int), .int .i64 (m.first : Int), .int .i64 (m.p.root : Int), .slice E1 0 d1, .slice E2 0 d2] 41)
  have hb4 := hb3.trans (hal.mono hb3.size)
  have R1 := hide (r1.below hal)
  have R2 := hide (r2.below hal)
  have M4 := hide (Blk.new w3 41 #[.int .i64 m.n, .int .i64 (m.level : Int), .int .i64 (m.first : Int), .int .i64 (m.p.root : Int), .slice E1 0 d1, .slice E2 0 d2])
  have B4 := hide (B2.out.trans (hb4.mono B2.out.size))
  clear hb3 hb4 r1 r2 hal
  clear R1 R2
  go_wp2_with fail
  generalize hg : w3.heap.size = g4 at M4 ⊢
  generalize w3.alloc _ = w4 at *
  have u3 := M4.out.cell 3
  have u4 := M4.out.cell 4
  have u5 := M4.out.cell 5
  simp only [List.getElem?_toArray, List.getElem?_cons_succ, List.getElem?_cons_zero] at u3 u4 u5
  go_wp2_with fail
  go_ret
  exact ⟨rfl, B4.out⟩
set_option maxHeartbeats 2000000 in
set_option maxRecDepth 100000 in
theorem parents_more (n : Int) (hn : I64 n) (m : MetaL) (hr : findR n = some m) (ht : toP n = some m.p) (k kk : Nat) (hK : kk = k + 1) (hl : m.p.metas.length = kk) (w : World) (sp : SpanAt w) : Calls Tryd.prog 5 #[.int .i64 n] w fun e w' => e = .returned (.bool true) ∧ Below w.heap.size w w' := by
  have hsl : m.p.slots.length = kk := by rw [← (toP_len ht).1]; exact hl
  have hK3 : kk ≤ 3 := by rw [← hl]; exact (toP_len ht).2.1
  obtain ⟨x, s, q, hx, hs, hq, em, es, er, hx1, hx2, hs2⟩ := par_of ht (by rw [hl, hK])
  have hxI : I64 x := ⟨by omega, by omega⟩
  have lqm : q.metas.length = k := by have := congrArg List.length em; rw [List.length_append, hl, List.length_singleton] at this; omega
  have lqs : q.slots.length = k := by have := congrArg List.length es; rw [List.length_append, hsl, List.length_singleton] at this; omega
  have hwK : IntKind.i64.wrap ((kk : Int) - 1) = (k : Int) := by rw [IntKind.wrap_i64]; omega
  have hkK : k < kk := by omega
  have hk0 : ((kk : Int) == 0) = false := by rw [beq_eq_false_iff_ne]; omega
  have HE := hide (⟨hsl, hK, hl, hx, hs, hq⟩ : _ ∧ _ ∧ _ ∧ _ ∧ _ ∧ _)
  have HF := hide (⟨em, es, er, lqm, lqs⟩ : _ ∧ _ ∧ _ ∧ _ ∧ _)
  clear hsl hK hl hx hs hq em es er lqm lqs
  have SP := hide sp
  have HN := hide hn
  clear sp hn
  go_enter Tryd.func5, Tryd.ntmps5
  go_wp2_with fail
  refine (awake04 w SP.out).mono ?_
  rintro e w1 ⟨rfl, hb1⟩
  have B1 := hide hb1
  clear hb1
  go_wp2_with fail
  refine (parent_meta n HN.out ht k x s (by rw [HE.out.2.2.1, HE.out.2.1]) HE.out.2.2.2.1 HE.out.2.2.2.2.1 w1 (SP.out.bel B1.out)).mono ?_
  rintro e w2 ⟨rfl, hb2⟩
  have B2 := hide (B1.out.trans (hb2.mono B1.out.size))
  clear hb2
  go_wp2_with fail
  have C := findR_any n HN.out w2
  rw [hr] at C
  refine C.mono ?_
  clear C
  rintro e w3 ⟨he, hb3⟩
  obtain ⟨E1, d1, E2, d2, rfl, r1, r2⟩ := he
  unfold metaV
  rw [HE.out.1] at r2 ⊢
  rw [HE.out.2.2.1] at r1 ⊢
  have hal := (Below.refl w3.heap.size w3).alloc (Nat.le_refl _) (.cells #[.int .i64 m.n, .int .i64 (m.level : Int), .int .i64 (m.first : Int), .int .i64 (m.p.root : Int), .slice E1 kk d1, .slice E2 kk d2] 41)
  have hb4 := hb3.trans (hal.mono hb3.size)
  have R1 := hide (r1.below hal)
  have R2 := hide (r2.below hal)
  have M4 := hide (Blk.new w3 41 #[.int .i64 m.n, .int .i64 (m.level : Int), .int .i64 (m.first : Int), .int .i64 (m.p.root : Int), .slice E1 kk d1, .slice E2 kk d2])
  have B4 := hide (B2.out.trans (hb4.mono B2.out.size))
  clear hb3 hb4 r1 r2 hal
  go_wp2_with fail
  generalize hg : w3.heap.size = g4 at M4 ⊢
  generalize w3.alloc _ = w4 at *
  have u3 := M4.out.cell 3
  have u4 := M4.out.cell 4
  have u5 := M4.out.cell 5
  simp only [List.getElem?_toArray, List.getElem?_cons_succ, List.getElem?_cons_zero] at u3 u4 u5
  clear hg
  go_wp2_with fail
  refine (to_any x hxI HE.out.2.2.2.2.2 w4 (SP.out.bel B4.out)).mono ?_
  rintro e w5 ⟨A1, c1, A2, c2, rfl, hpm, hb5⟩
  unfold pathA
  rw [HF.out.2.2.2.1] at hpm ⊢
  have hal := (Below.refl w5.heap.size w5).alloc (Nat.le_refl _) (.cells #[.int .i64 (q.root : Int), .slice A1 k c1, .slice A2 k c2] 34)
  have hb6 := hb5.trans (hal.mono hb5.size)
  have K6 := hide (Blk.new w5 34 #[.int .i64 (q.root : Int), .slice A1 k c1, .slice A2 k c2])
  have P6 := hide (hpm.below hal)
  have R1b := hide (R1.out.below hb6)
  have R2b := hide (R2.out.below hb6)
  have M6 := hide (M4.out.below hb6)
  have B6 := hide (B4.out.trans (hb6.mono B4.out.size))
  clear hb5 hb6 hal hpm R1 R2 M4 u3 u4 u5
  go_wp2_with fail
  generalize hg : w5.heap.size = g6 at K6 ⊢
  generalize w5.alloc _ = w6 at *
  clear hg
  refine (to_any n HN.out ht w6 (SP.out.bel B6.out)).mono ?_
  rintro e w7 ⟨G1, e1, G2, e2, rfl, hpm, hb7⟩
  unfold pathA
  rw [HE.out.2.2.1] at hpm ⊢
  have hal := (Below.refl w7.heap.size w7).alloc (Nat.le_refl _) (.cells #[.int .i64 (m.p.root : Int), .slice G1 kk e1, .slice G2 kk e2] 34)
  have hb8 := hb7.trans (hal.mono hb7.size)
  have K8 := hide (Blk.new w7 34 #[.int .i64 (m.p.root : Int), .slice G1 kk e1, .slice G2 kk e2])
  have Q8 := hide (hpm.below hal)
  have P8 := hide (P6.out.below hb8)
  have R1c := hide (R1b.out.below hb8)
  have R2c := hide (R2b.out.below hb8)
  have M8 := hide (M6.out.below hb8)
  have L8 := hide (K6.out.below hb8)
  have B8 := hide (B6.out.trans (hb8.mono B6.out.size))
  clear hb7 hb8 hal hpm R1b R2b M6 P6 K6
  go_wp2_with fail
  generalize hg : w7.heap.size = g8 at K8 ⊢
  generalize w7.alloc _ = w8 at *
  clear hg
  obtain ⟨a1, x', hx', rfl, -, ha1, ca1, -, -⟩ := R1c.out.at hkK
  obtain ⟨a2, s', hs', rfl, -, ha2, ca2, -, -⟩ := R2c.out.at hkK
  obtain rfl : x = x' := by rw [HE.out.2.2.2.1] at hx'; injection hx'
  obtain rfl : (s : Int) = s' := by
    rw [natsI, List.getElem?_map, HE.out.2.2.2.2.1] at hs'
    injection hs'
  have cC : ∀ w' : World, Below w8.heap.size w8 w' → w'.cell? ⟨g4, 4, none⟩ = some (.slice (some ⟨a1, 0, none⟩) kk d1) ∧ w'.cell? ⟨g4, 5, none⟩ = some (.slice (some ⟨a2, 0, none⟩) kk d2) ∧ w'.cell? ⟨a1, k, none⟩ = some (.int .i64 x) ∧ w'.cell? ⟨a2, k, none⟩ = some (.int .i64 (s : Int)) ∧ w'.cell? ⟨g6, 0, none⟩ = some (.int .i64 (q.root : Int)) ∧ w'.cell? ⟨g6, 1, none⟩ = some (.slice A1 k c1) ∧ w'.cell? ⟨g6, 2, none⟩ = some (.slice A2 k c2) ∧ w'.cell? ⟨g8, 0, none⟩ = some (.int .i64 (m.p.root : Int)) ∧ w'.cell? ⟨g8, 1, none⟩ = some (.slice G1 kk e1) ∧ w'.cell? ⟨g8, 2, none⟩ = some (.slice G2 kk e2) := fun w' hb => by
    have k1 := M8.out.below hb
    have k2 := L8.out.below hb
    have k3 := K8.out.below hb
    exact ⟨k1.cell 4, k1.cell 5, (below_cell hb ha1 k).trans ca1, (below_cell hb ha2 k).trans ca2, k2.cell 0, k2.cell 1, k2.cell 2, k3.cell 0, k3.cell 1, k3.cell 2⟩
  have s0 := cC _ (Below.refl _ _).drew
  have CC := hide cC
  have S1 := hide (sl_of_ownI P8.out.m)
  have S2 := hide (sl_of_ownI P8.out.s)
  have T1 := hide (sl_of_ownI Q8.out.m)
  have T2 := hide (sl_of_ownI Q8.out.s)
  have BW := hide ((Below.refl w8.heap.size w8).drew)
  clear cC hx' hs' ca1 ca2 ha1 ha2 R1c R2c
  have her : ((q.root : Int) == (m.p.root : Int)) = true := by rw [HF.out.2.2.1, beq_self_eq_true]
  refine wp_region_noPanic ?_
  refine wp_region_held_drew (S := (fun w' => w'.cell? ⟨g4, 4, none⟩ = some (.slice (some ⟨a1, 0, none⟩) kk d1) ∧ w'.cell? ⟨g4, 5, none⟩ = some (.slice (some ⟨a2, 0, none⟩) kk d2) ∧ w'.cell? ⟨a1, k, none⟩ = some (.int .i64 x) ∧ w'.cell? ⟨a2, k, none⟩ = some (.int .i64 (s : Int)) ∧ w'.cell? ⟨g6, 0, none⟩ = some (.int .i64 (q.root : Int)) ∧ w'.cell? ⟨g6, 1, none⟩ = some (.slice A1 k c1) ∧ w'.cell? ⟨g6, 2, none⟩ = some (.slice A2 k c2) ∧ w'.cell? ⟨g8, 0, none⟩ = some (.int .i64 (m.p.root : Int)) ∧ w'.cell? ⟨g8, 1, none⟩ = some (.slice G1 kk e1) ∧ w'.cell? ⟨g8, 2, none⟩ = some (.slice G2 kk e2))) (by kernel_rfl) ?_ (fun hHeld => ?_)
  · ((try dsimp only) <;> (first | trivial | assumption | go_keep))
  clear s0
  have w8s : w8.drew.heap.size = w8.heap.size := rfl
  generalize w8.drew = w9 at *
  refine wpAnyH_take (i := 0) (v := ?_) (by simp only [List.getElem?_toArray, List.getElem?_cons_succ, List.getElem?_cons_zero]; rfl) (by kernel_rfl) (by kernel_rfl) (by kernel_rfl) (fun _ _ _ h => h) (Or.inl ⟨by rfl, ?_⟩) (by assumption) ?_
  rotate_left 1
  · (intro w hSw; (try dsimp only at hSw); go_simp; try with_reducible rfl)
  try simp only [Act.put, List.setIfInBounds_toArray, List.set_cons_zero, List.set_cons_succ]
  refine wpAnyH_take (i := 1) (v := ?_) (by simp only [List.getElem?_toArray, List.getElem?_cons_succ, List.getElem?_cons_zero]; rfl) (by kernel_rfl) (by kernel_rfl) (by kernel_rfl) (fun _ _ _ h => h) (Or.inl ⟨by rfl, ?_⟩) (by assumption) ?_
  rotate_left 1
  · (intro w hSw; (try dsimp only at hSw); go_simp; try with_reducible rfl)
  try simp only [Act.put, List.setIfInBounds_toArray, List.set_cons_zero, List.set_cons_succ]
  refine wpAnyH_take (i := 2) (v := ?_) (by simp only [List.getElem?_toArray, List.getElem?_cons_succ, List.getElem?_cons_zero]; rfl) (by kernel_rfl) (by kernel_rfl) (by kernel_rfl) (fun _ _ _ h => h) (Or.inl ⟨by rfl, ?_⟩) (by assumption) ?_
  rotate_left 1
  · (intro w hSw; (try dsimp only at hSw); go_simp; try with_reducible rfl)
  try simp only [Act.put, List.setIfInBounds_toArray, List.set_cons_zero, List.set_cons_succ]
  refine wpAnyH_take (i := 3) (v := ?_) (by simp only [List.getElem?_toArray, List.getElem?_cons_succ, List.getElem?_cons_zero]; rfl) (by kernel_rfl) (by kernel_rfl) (by kernel_rfl) (fun _ _ _ h => h) (Or.inl ⟨by rfl, ?_⟩) (by assumption) ?_
  rotate_left 1
  · (intro w hSw; (try dsimp only at hSw); go_simp; try with_reducible rfl)
  try simp only [Act.put, List.setIfInBounds_toArray, List.set_cons_zero, List.set_cons_succ]
  refine wpAnyH_take (i := 4) (v := ?_) (by simp only [List.getElem?_toArray, List.getElem?_cons_succ, List.getElem?_cons_zero]; rfl) (by kernel_rfl) (by kernel_rfl) (by kernel_rfl) (fun _ _ _ h => h) (Or.inl ⟨by rfl, ?_⟩) (by assumption) ?_
  rotate_left 1
  · (intro w hSw; (try dsimp only at hSw); go_simp; try with_reducible rfl)
  try simp only [Act.put, List.setIfInBounds_toArray, List.set_cons_zero, List.set_cons_succ]
  refine wpAnyH_take (i := 5) (v := ?_) (by simp only [List.getElem?_toArray, List.getElem?_cons_succ, List.getElem?_cons_zero]; rfl) (by kernel_rfl) (by kernel_rfl) (by kernel_rfl) (fun _ _ _ h => h) (Or.inl ⟨by rfl, ?_⟩) (by assumption) ?_
  rotate_left 1
  · (intro w hSw; (try dsimp only at hSw); go_simp; try with_reducible rfl)
  try simp only [Act.put, List.setIfInBounds_toArray, List.set_cons_zero, List.set_cons_succ]
  refine wpAnyH_take (i := 6) (v := ?_) (by simp only [List.getElem?_toArray, List.getElem?_cons_succ, List.getElem?_cons_zero]; rfl) (by kernel_rfl) (by kernel_rfl) (by kernel_rfl) (fun _ _ _ h => h) (Or.inl ⟨by rfl, ?_⟩) (by assumption) ?_
  rotate_left 1
  · (intro w hSw; (try dsimp only at hSw); go_simp; try with_reducible rfl)
  try simp only [Act.put, List.setIfInBounds_toArray, List.set_cons_zero, List.set_cons_succ]
  refine wpAnyH_take (i := 7) (v := ?_) (by simp only [List.getElem?_toArray, List.getElem?_cons_succ, List.getElem?_cons_zero]; rfl) (by kernel_rfl) (by kernel_rfl) (by kernel_rfl) (fun _ _ _ h => h) (Or.inl ⟨by rfl, ?_⟩) (by assumption) ?_
  rotate_left 1
  · (intro w hSw; (try dsimp only at hSw); go_simp; try with_reducible rfl)
  try simp only [Act.put, List.setIfInBounds_toArray, List.set_cons_zero, List.set_cons_succ]
  refine wpAnyH_take (i := 8) (v := ?_) (by simp only [List.getElem?_toArray, List.getElem?_cons_succ, List.getElem?_cons_zero]; rfl) (by kernel_rfl) (by kernel_rfl) (by kernel_rfl) (fun _ _ _ h => h) (Or.inl ⟨by rfl, ?_⟩) (by assumption) ?_
  rotate_left 1
  · (intro w hSw; (try dsimp only at hSw); go_simp; try with_reducible rfl)
  try simp only [Act.put, List.setIfInBounds_toArray, List.set_cons_zero, List.set_cons_succ]
  refine wpAnyH_take (i := 9) (v := ?_) (by simp only [List.getElem?_toArray, List.getElem?_cons_succ, List.getElem?_cons_zero]; rfl) (by kernel_rfl) (by kernel_rfl) (by kernel_rfl) (fun _ _ _ h => h) (Or.inl ⟨by rfl, ?_⟩) (by assumption) ?_
  rotate_left 1
  · (intro w hSw; (try dsimp only at hSw); go_simp; try with_reducible rfl)
  try simp only [Act.put, List.setIfInBounds_toArray, List.set_cons_zero, List.set_cons_succ]
  refine wpAnyH_take (i := 10) (v := ?_) (by simp only [List.getElem?_toArray, List.getElem?_cons_succ, List.getElem?_cons_zero]; rfl) (by kernel_rfl) (by kernel_rfl) (by kernel_rfl) (fun _ _ _ h => h) (Or.inl ⟨by rfl, ?_⟩) (by assumption) ?_
  rotate_left 1
  · (intro w hSw; (try dsimp only at hSw); go_simp; try with_reducible rfl)
  try simp only [Act.put, List.setIfInBounds_toArray, List.set_cons_zero, List.set_cons_succ]
  refine wpAnyH_take (i := 11) (v := ?_) (by simp only [List.getElem?_toArray, List.getElem?_cons_succ, List.getElem?_cons_zero]; rfl) (by kernel_rfl) (by kernel_rfl) (by kernel_rfl) (fun _ _ _ h => h) (Or.inl ⟨by rfl, ?_⟩) (by assumption) ?_
  rotate_left 1
  · (intro w hSw; (try dsimp only at hSw); go_simp; try with_reducible rfl)
  try simp only [Act.put, List.setIfInBounds_toArray, List.set_cons_zero, List.set_cons_succ]
  refine wpAnyH_take (i := 12) (v := ?_) (by simp only [List.getElem?_toArray, List.getElem?_cons_succ, List.getElem?_cons_zero]; rfl) (by kernel_rfl) (by kernel_rfl) (by kernel_rfl) (fun _ _ _ h => h) (Or.inl ⟨by rfl, ?_⟩) (by assumption) ?_
  rotate_left 1
  · (intro w hSw; (try dsimp only at hSw); go_simp; try with_reducible rfl)
  try simp only [Act.put, List.setIfInBounds_toArray, List.set_cons_zero, List.set_cons_succ]
  refine wpAnyH_take (i := 13) (v := ?_) (by simp only [List.getElem?_toArray, List.getElem?_cons_succ, List.getElem?_cons_zero]; rfl) (by kernel_rfl) (by kernel_rfl) (by kernel_rfl) (fun _ _ _ h => h) (Or.inl ⟨by rfl, ?_⟩) (by assumption) ?_
  rotate_left 1
  · (intro w hSw; (try dsimp only at hSw); go_simp; try with_reducible rfl)
  try simp only [Act.put, List.setIfInBounds_toArray, List.set_cons_zero, List.set_cons_succ]
  refine wpAnyH_take (i := 14) (v := ?_) (by simp only [List.getElem?_toArray, List.getElem?_cons_succ, List.getElem?_cons_zero]; rfl) (by kernel_rfl) (by kernel_rfl) (by kernel_rfl) (fun _ _ _ h => h) (Or.inl ⟨by rfl, ?_⟩) (by assumption) ?_
  rotate_left 1
  · (intro w hSw; (try dsimp only at hSw); go_simp; try with_reducible rfl)
  try simp only [Act.put, List.setIfInBounds_toArray, List.set_cons_zero, List.set_cons_succ]
  refine wpAnyH_take (i := 15) (v := ?_) (by simp only [List.getElem?_toArray, List.getElem?_cons_succ, List.getElem?_cons_zero]; rfl) (by kernel_rfl) (by kernel_rfl) (by kernel_rfl) (fun _ _ _ h => h) (Or.inl ⟨by rfl, ?_⟩) (by assumption) ?_
  rotate_left 1
  · (intro w hSw; (try dsimp only at hSw); go_simp; try with_reducible rfl)
  try simp only [Act.put, List.setIfInBounds_toArray, List.set_cons_zero, List.set_cons_succ]
  refine wpAnyH_take (i := 16) (v := ?_) (by simp only [List.getElem?_toArray, List.getElem?_cons_succ, List.getElem?_cons_zero]; rfl) (by kernel_rfl) (by kernel_rfl) (by kernel_rfl) (fun _ _ _ h => h) (Or.inl ⟨by rfl, ?_⟩) (by assumption) ?_
  rotate_left 1
  · (intro w hSw; (try dsimp only at hSw); go_simp; try with_reducible rfl)
  try simp only [Act.put, List.setIfInBounds_toArray, List.set_cons_zero, List.set_cons_succ]
  refine wpAnyH_take (i := 17) (v := ?_) (by simp only [List.getElem?_toArray, List.getElem?_cons_succ, List.getElem?_cons_zero]; rfl) (by kernel_rfl) (by kernel_rfl) (by kernel_rfl) (fun _ _ _ h => h) (Or.inl ⟨by rfl, ?_⟩) (by assumption) ?_
  rotate_left 1
  · (intro w hSw; (try dsimp only at hSw); go_simp; try with_reducible rfl)
  try simp only [Act.put, List.setIfInBounds_toArray, List.set_cons_zero, List.set_cons_succ]
  refine wpAnyH_take (i := 18) (v := ?_) (by simp only [List.getElem?_toArray, List.getElem?_cons_succ, List.getElem?_cons_zero]; rfl) (by kernel_rfl) (by kernel_rfl) (by kernel_rfl) (fun _ _ _ h => h) (Or.inl ⟨by rfl, ?_⟩) (by assumption) ?_
  rotate_left 1
  · (intro w hSw; (try dsimp only at hSw); go_simp; try with_reducible rfl)
  try simp only [Act.put, List.setIfInBounds_toArray, List.set_cons_zero, List.set_cons_succ]
  refine wpAnyH_take (i := 19) (v := ?_) (by simp only [List.getElem?_toArray, List.getElem?_cons_succ, List.getElem?_cons_zero]; rfl) (by kernel_rfl) (by kernel_rfl) (by kernel_rfl) (fun _ _ _ h => h) (Or.inl ⟨by rfl, ?_⟩) (by assumption) ?_
  rotate_left 1
  · (intro w hSw; (try dsimp only at hSw); go_simp; try with_reducible rfl)
  try simp only [Act.put, List.setIfInBounds_toArray, List.set_cons_zero, List.set_cons_succ]
  refine wpAnyH_take (i := 20) (v := ?_) (by simp only [List.getElem?_toArray, List.getElem?_cons_succ, List.getElem?_cons_zero]; rfl) (by kernel_rfl) (by kernel_rfl) (by kernel_rfl) (fun _ _ _ h => h) (Or.inl ⟨by rfl, ?_⟩) (by assumption) ?_
  rotate_left 1
  · (intro w hSw; (try dsimp only at hSw); go_simp; try with_reducible rfl)
  try simp only [Act.put, List.setIfInBounds_toArray, List.set_cons_zero, List.set_cons_succ]
  refine wpAnyH_take (i := 21) (v := ?_) (by simp only [List.getElem?_toArray, List.getElem?_cons_succ, List.getElem?_cons_zero]; rfl) (by kernel_rfl) (by kernel_rfl) (by kernel_rfl) (fun _ _ _ h => h) (Or.inl ⟨by rfl, ?_⟩) (by assumption) ?_
  rotate_left 1
  · (intro w hSw; (try dsimp only at hSw); go_simp; try with_reducible rfl)
  try simp only [Act.put, List.setIfInBounds_toArray, List.set_cons_zero, List.set_cons_succ]
  refine wpAnyH_take (i := 22) (v := ?_) (by simp only [List.getElem?_toArray, List.getElem?_cons_succ, List.getElem?_cons_zero]; rfl) (by kernel_rfl) (by kernel_rfl) (by kernel_rfl) (fun _ _ _ h => h) (Or.inl ⟨by rfl, ?_⟩) (by assumption) ?_
  rotate_left 1
  · (intro w hSw; (try dsimp only at hSw); go_simp; try with_reducible rfl)
  try simp only [Act.put, List.setIfInBounds_toArray, List.set_cons_zero, List.set_cons_succ]
  refine wpAnyH_take (i := 23) (v := ?_) (by simp only [List.getElem?_toArray, List.getElem?_cons_succ, List.getElem?_cons_zero]; rfl) (by kernel_rfl) (by kernel_rfl) (by kernel_rfl) (fun _ _ _ h => h) (Or.inl ⟨by rfl, ?_⟩) (by assumption) ?_
  rotate_left 1
  · (intro w hSw; (try dsimp only at hSw); go_simp; try with_reducible rfl)
  try simp only [Act.put, List.setIfInBounds_toArray, List.set_cons_zero, List.set_cons_succ]
  refine wpAnyH_take (i := 24) (v := ?_) (by simp only [List.getElem?_toArray, List.getElem?_cons_succ, List.getElem?_cons_zero]; rfl) (by kernel_rfl) (by kernel_rfl) (by kernel_rfl) (fun _ _ _ h => h) (Or.inl ⟨by rfl, ?_⟩) (by assumption) ?_
  rotate_left 1
  · (intro w hSw; (try dsimp only at hSw); go_simp; try with_reducible rfl)
  try simp only [Act.put, List.setIfInBounds_toArray, List.set_cons_zero, List.set_cons_succ]
  refine wpAnyH_take (i := 25) (v := ?_) (by simp only [List.getElem?_toArray, List.getElem?_cons_succ, List.getElem?_cons_zero]; rfl) (by kernel_rfl) (by kernel_rfl) (by kernel_rfl) (fun _ _ _ h => h) (Or.inl ⟨by rfl, ?_⟩) (by assumption) ?_
  rotate_left 1
  · (intro w hSw; (try dsimp only at hSw); go_simp; try with_reducible rfl)
  try simp only [Act.put, List.setIfInBounds_toArray, List.set_cons_zero, List.set_cons_succ]
  refine wpAnyH_take (i := 26) (v := ?_) (by simp only [List.getElem?_toArray, List.getElem?_cons_succ, List.getElem?_cons_zero]; rfl) (by kernel_rfl) (by kernel_rfl) (by kernel_rfl) (fun _ _ _ h => h) (Or.inl ⟨by rfl, ?_⟩) (by assumption) ?_
  rotate_left 1
  · (intro w hSw; (try dsimp only at hSw); go_simp; try with_reducible rfl)
  try simp only [Act.put, List.setIfInBounds_toArray, List.set_cons_zero, List.set_cons_succ]
  refine wpAnyH_take (i := 27) (v := ?_) (by simp only [List.getElem?_toArray, List.getElem?_cons_succ, List.getElem?_cons_zero]; rfl) (by kernel_rfl) (by kernel_rfl) (by kernel_rfl) (fun _ _ _ h => h) (Or.inl ⟨by rfl, ?_⟩) (by assumption) ?_
  rotate_left 1
  · (intro w hSw; (try dsimp only at hSw); go_simp; try with_reducible rfl)
  try simp only [Act.put, List.setIfInBounds_toArray, List.set_cons_zero, List.set_cons_succ]
  refine wpAnyH_take (i := 28) (v := ?_) (by simp only [List.getElem?_toArray, List.getElem?_cons_succ, List.getElem?_cons_zero]; rfl) (by kernel_rfl) (by kernel_rfl) (by kernel_rfl) (fun _ _ _ h => h) (Or.inl ⟨by rfl, ?_⟩) (by assumption) ?_
  rotate_left 1
  · (intro w hSw; (try dsimp only at hSw); go_simp; try with_reducible rfl)
  try simp only [Act.put, List.setIfInBounds_toArray, List.set_cons_zero, List.set_cons_succ]
  refine wpAnyH_take (i := 30) (v := ?_) (by simp only [List.getElem?_toArray, List.getElem?_cons_succ, List.getElem?_cons_zero]; rfl) (by kernel_rfl) (by kernel_rfl) (by kernel_rfl) (fun _ _ _ h => h) (Or.inl ⟨by rfl, ?_⟩) (by assumption) ?_
  rotate_left 1
  · (intro w hSw; (try dsimp only at hSw); go_simp; try with_reducible rfl)
  try simp only [Act.put, List.setIfInBounds_toArray, List.set_cons_zero, List.set_cons_succ]
  refine wpAnyH_take (i := 31) (v := ?_) (by simp only [List.getElem?_toArray, List.getElem?_cons_succ, List.getElem?_cons_zero]; rfl) (by kernel_rfl) (by kernel_rfl) (by kernel_rfl) (fun _ _ _ h => h) (Or.inl ⟨by rfl, ?_⟩) (by assumption) ?_
  rotate_left 1
  · (intro w hSw; (try dsimp only at hSw); go_simp; try with_reducible rfl)
  try simp only [Act.put, List.setIfInBounds_toArray, List.set_cons_zero, List.set_cons_succ]
  refine wpAnyH_take (i := 33) (v := ?_) (by simp only [List.getElem?_toArray, List.getElem?_cons_succ, List.getElem?_cons_zero]; rfl) (by kernel_rfl) (by kernel_rfl) (by kernel_rfl) (fun _ _ _ h => h) (Or.inl ⟨by rfl, ?_⟩) (by assumption) ?_
  rotate_left 1
  · (intro w hSw; (try dsimp only at hSw); go_simp; try with_reducible rfl)
  try simp only [Act.put, List.setIfInBounds_toArray, List.set_cons_zero, List.set_cons_succ]
  refine wpAnyH_take (i := 36) (v := ?_) (by simp only [List.getElem?_toArray, List.getElem?_cons_succ, List.getElem?_cons_zero]; rfl) (by kernel_rfl) (by kernel_rfl) (by kernel_rfl) (fun _ _ _ h => h) (Or.inl ⟨by rfl, ?_⟩) (by assumption) ?_
  rotate_left 1
  · (intro w hSw; (try dsimp only at hSw); go_simp; try with_reducible rfl)
  try simp only [Act.put, List.setIfInBounds_toArray, List.set_cons_zero, List.set_cons_succ]
  refine wpAnyH_take (i := 37) (v := ?_) (by simp only [List.getElem?_toArray, List.getElem?_cons_succ, List.getElem?_cons_zero]; rfl) (by kernel_rfl) (by kernel_rfl) (by kernel_rfl) (fun _ _ _ h => h) (Or.inl ⟨by rfl, ?_⟩) (by assumption) ?_
  rotate_left 1
  · (intro w hSw; (try dsimp only at hSw); go_simp; try with_reducible rfl)
  try simp only [Act.put, List.setIfInBounds_toArray, List.set_cons_zero, List.set_cons_succ]
  have s9 : w8.heap.size ≤ w9.heap.size := Nat.le_of_eq w8s.symm
  refine region_rows (fuel := 22) (w0 := w9) (base := w9.heap.size) (stop := 38) (C := [⟨29, 96, [], [], RowF 3 w9.heap.size []⟩, ⟨32, 99, [29], [29], RowF 3 w9.heap.size (intC q.metas)⟩, ⟨34, 101, [], [], BufF 3 w9.heap.size [.int .i64 x]⟩, ⟨35, 102, [32], [32, 34], RowF 3 w9.heap.size (intC q.metas ++ [.int .i64 x])⟩])
    (ok_of_cd (by kernel_rfl)) ?hok ?hst ?hS (Below.refl _ _) (Nat.le_refl _) ?hend
  case hok =>
    intro y hy
    simp only [List.mem_cons, List.not_mem_nil, or_false] at hy
    rcases hy with rfl | rfl | rfl | rfl
    · exact rowF_ok _ _ _ _ _ _ _
    · exact rowF_ok _ _ _ _ _ _ _
    · exact bufF_ok _ _ _ _ _ _ _
    · exact rowF_ok _ _ _ _ _ _ _
  case hS =>
    intro w' hb _
    exact CC.out w' (BW.out.trans (hb.mono s9))
  case hst =>
    intro y hy
    simp only [List.mem_cons, List.not_mem_nil, or_false] at hy
    rcases hy with rfl | rfl | rfl | rfl
    · exact step_empty_w (by simp only [List.getElem?_toArray, List.getElem?_cons_succ, List.getElem?_cons_zero]; rfl) (want_of (by rfl) (by rfl) (by rfl) (by intro z hz; simp only [List.mem_cons, List.not_mem_nil, or_false] at hz; rcases hz with rfl | rfl | rfl | rfl <;> simp) (by rfl)) (by rfl) (by rfl) rfl
    · exact step_src_w (by simp only [List.getElem?_toArray, List.getElem?_cons_succ, List.getElem?_cons_zero]; rfl) (want_of (by rfl) (by rfl) (by rfl) (by intro z hz; simp only [List.mem_cons, List.not_mem_nil, or_false] at hz; rcases hz with rfl | rfl | rfl | rfl <;> simp) (by rfl)) (by rfl) 96 98 (by rfl) ⟨29, 96, [], [], RowF 3 w9.heap.size []⟩ (by simp) rfl (by simp) (by simp) [] rfl (by intro z hz; simp only [List.mem_cons, List.not_mem_nil, or_false] at hz; rcases hz with rfl | rfl | rfl | rfl <;> simp) w8.heap.size A1 k c1 q.metas (by rfl) (S1.out.below BW.out) s9 (by rw [HF.out.2.2.2.1]; simp; omega) rfl
    · exact step_buf1_w (by simp only [List.getElem?_toArray, List.getElem?_cons_succ, List.getElem?_cons_zero]; rfl) (want_of (by rfl) (by rfl) (by rfl) (by intro z hz; simp only [List.mem_cons, List.not_mem_nil, or_false] at hz; rcases hz with rfl | rfl | rfl | rfl <;> simp) (by rfl)) (by rfl) 100 (by rfl) (by intro z hz; simp only [List.mem_cons, List.not_mem_nil, or_false] at hz; rcases hz with rfl | rfl | rfl | rfl <;> simp) _ (by rfl) rfl
    · exact step_add_w (by simp only [List.getElem?_toArray, List.getElem?_cons_succ, List.getElem?_cons_zero]; rfl) (want_of (by rfl) (by rfl) (by rfl) (by intro z hz; simp only [List.mem_cons, List.not_mem_nil, or_false] at hz; rcases hz with rfl | rfl | rfl | rfl <;> simp) (by rfl)) (by rfl) 99 101 (by rfl) ⟨32, 99, [29], [29], RowF 3 w9.heap.size (intC q.metas)⟩ (by simp) rfl (by simp) (by simp) (intC q.metas) rfl ⟨34, 101, [], [], BufF 3 w9.heap.size [.int .i64 x]⟩ (by simp) rfl (by simp) _ rfl (by rw [intC_len, HF.out.2.2.2.1]; omega) rfl
  case hend =>
    intro vals w10 hb10 hs10 hF hap
    have f35 := hF ⟨35, 102, [32], [32, 34], RowF 3 w9.heap.size (intC q.metas ++ [.int .i64 x])⟩ (by simp) (by simp)
    clear hF hap
    simp only at f35
    obtain ⟨F1, n1, b1, hv35, o1⟩ := f35
    simp only [List.foldl_cons, List.foldl_nil, hv35]
    generalize vals 29 = x29
    generalize vals 32 = x32
    generalize vals 34 = x34
    clear hv35
    simp only [Act.put, List.setIfInBounds_toArray, List.set_cons_zero, List.set_cons_succ]
    have B10 := hide (BW.out.trans (hb10.mono s9))
    replace hHeld := CC.out w10 B10.out
    rw [intC_app, ← HF.out.1] at o1
    have N1 := hide (sl_of_ownI o1)
    have ln1 : n1 = kk := by have := own_lenI o1; rw [HE.out.2.2.1] at this; exact this.symm
    subst n1
    clear hb10 hs10 o1
    refine wpAnyH_ready (rs := [38]) (by kernel_rfl) (by simp) ?_
    refine AllReadyH.cons (by simp only [List.getElem?_toArray, List.getElem?_cons_succ, List.getElem?_cons_zero]; rfl) (fun K hK => ?_) ?_
    rotate_left 1
    · exact AllReadyH.nil
    go_simp
    refine (ints_any F1 G1 kk kk b1 e1 w10.heap.size w8.heap.size m.p.metas m.p.metas w10 N1.out (T1.out.below B10.out) (Nat.le_refl _) B10.out.size (by omega) (by omega)).mono ?_; rintro e w11 ⟨rfl, hb11⟩; have B11 := hide (B10.out.trans (hb11.mono B10.out.size)); have s11 := CC.out _ B11.out; clear hb11; go_wp2_with fail
    refine hK.out _ _ ?_ (fun hHeld2 => ?_)
    · ((try dsimp only) <;> (first | trivial | assumption | go_keep))
    clear hHeld
    have hHeld := hHeld2
    clear hHeld2 hK K
    try simp only [Act.put, List.setIfInBounds_toArray, List.set_cons_zero, List.set_cons_succ]
    refine wpAnyH_take (i := 39) (v := ?_) (by simp only [List.getElem?_toArray, List.getElem?_cons_succ, List.getElem?_cons_zero]; rfl) (by kernel_rfl) (by kernel_rfl) (by kernel_rfl) (fun _ _ _ h => h) (Or.inl ⟨by rfl, ?_⟩) (by assumption) ?_
    rotate_left 1
    · (intro w hSw; (try dsimp only at hSw); go_simp; try with_reducible rfl)
    try simp only [Act.put, List.setIfInBounds_toArray, List.set_cons_zero, List.set_cons_succ]
    refine wpAnyH_take (i := 40) (v := ?_) (by simp only [List.getElem?_toArray, List.getElem?_cons_succ, List.getElem?_cons_zero]; rfl) (by kernel_rfl) (by kernel_rfl) (by kernel_rfl) (fun _ _ _ h => h) (Or.inl ⟨by rfl, ?_⟩) (by assumption) ?_
    rotate_left 1
    · (intro w hSw; (try dsimp only at hSw); go_simp; try with_reducible rfl)
    try simp only [Act.put, List.setIfInBounds_toArray, List.set_cons_zero, List.set_cons_succ]
    refine wpAnyH_take (i := 42) (v := ?_) (by simp only [List.getElem?_toArray, List.getElem?_cons_succ, List.getElem?_cons_zero]; rfl) (by kernel_rfl) (by kernel_rfl) (by kernel_rfl) (fun _ _ _ h => h) (Or.inl ⟨by rfl, ?_⟩) (by assumption) ?_
    rotate_left 1
    · (intro w hSw; (try dsimp only at hSw); go_simp; try with_reducible rfl)
    try simp only [Act.put, List.setIfInBounds_toArray, List.set_cons_zero, List.set_cons_succ]
    refine wpAnyH_take (i := 43) (v := ?_) (by simp only [List.getElem?_toArray, List.getElem?_cons_succ, List.getElem?_cons_zero]; rfl) (by kernel_rfl) (by kernel_rfl) (by kernel_rfl) (fun _ _ _ h => h) (Or.inl ⟨by rfl, ?_⟩) (by assumption) ?_
    rotate_left 1
    · (intro w hSw; (try dsimp only at hSw); go_simp; try with_reducible rfl)
    try simp only [Act.put, List.setIfInBounds_toArray, List.set_cons_zero, List.set_cons_succ]
    refine wpAnyH_take (i := 45) (v := ?_) (by simp only [List.getElem?_toArray, List.getElem?_cons_succ, List.getElem?_cons_zero]; rfl) (by kernel_rfl) (by kernel_rfl) (by kernel_rfl) (fun _ _ _ h => h) (Or.inl ⟨by rfl, ?_⟩) (by assumption) ?_
    rotate_left 1
    · (intro w hSw; (try dsimp only at hSw); go_simp; try with_reducible rfl)
    try simp only [Act.put, List.setIfInBounds_toArray, List.set_cons_zero, List.set_cons_succ]
    refine wpAnyH_take (i := 48) (v := ?_) (by simp only [List.getElem?_toArray, List.getElem?_cons_succ, List.getElem?_cons_zero]; rfl) (by kernel_rfl) (by kernel_rfl) (by kernel_rfl) (fun _ _ _ h => h) (Or.inl ⟨by rfl, ?_⟩) (by assumption) ?_
    rotate_left 1
    · (intro w hSw; (try dsimp only at hSw); go_simp; try with_reducible rfl)
    try simp only [Act.put, List.setIfInBounds_toArray, List.set_cons_zero, List.set_cons_succ]
    refine wpAnyH_take (i := 49) (v := ?_) (by simp only [List.getElem?_toArray, List.getElem?_cons_succ, List.getElem?_cons_zero]; rfl) (by kernel_rfl) (by kernel_rfl) (by kernel_rfl) (fun _ _ _ h => h) (Or.inl ⟨by rfl, ?_⟩) (by assumption) ?_
    rotate_left 1
    · (intro w hSw; (try dsimp only at hSw); go_simp; try with_reducible rfl)
    try simp only [Act.put, List.setIfInBounds_toArray, List.set_cons_zero, List.set_cons_succ]
    refine region_rows (fuel := 10) (w0 := w11) (base := w11.heap.size) (stop := 50) (C := [⟨41, 108, [], [], RowF 3 w11.heap.size []⟩, ⟨44, 111, [41], [41], RowF 3 w11.heap.size (intC (natsI q.slots))⟩, ⟨46, 113, [], [], BufF 3 w11.heap.size [.int .i64 (s : Int)]⟩, ⟨47, 114, [44], [44, 46], RowF 3 w11.heap.size (intC (natsI q.slots) ++ [.int .i64 (s : Int)])⟩])
      (ok_of_cd (by kernel_rfl)) ?hok ?hst ?hS (Below.refl _ _) (Nat.le_refl _) ?hend
    case hok =>
      intro y hy
      simp only [List.mem_cons, List.not_mem_nil, or_false] at hy
      rcases hy with rfl | rfl | rfl | rfl
      · exact rowF_ok _ _ _ _ _ _ _
      · exact rowF_ok _ _ _ _ _ _ _
      · exact bufF_ok _ _ _ _ _ _ _
      · exact rowF_ok _ _ _ _ _ _ _
    case hS =>
      intro w' hb _
      exact CC.out w' (B11.out.trans (hb.mono B11.out.size))
    case hst =>
      intro y hy
      have lqq : (natsI q.slots).length = k := by rw [natsI_len]; exact HF.out.2.2.2.2
      simp only [List.mem_cons, List.not_mem_nil, or_false] at hy
      rcases hy with rfl | rfl | rfl | rfl
      · exact step_empty_w (by simp only [List.getElem?_toArray, List.getElem?_cons_succ, List.getElem?_cons_zero]; rfl) (want_of (by rfl) (by rfl) (by rfl) (by intro z hz; simp only [List.mem_cons, List.not_mem_nil, or_false] at hz; rcases hz with rfl | rfl | rfl | rfl <;> simp) (by rfl)) (by rfl) (by rfl) rfl
      · exact step_src_w (by simp only [List.getElem?_toArray, List.getElem?_cons_succ, List.getElem?_cons_zero]; rfl) (want_of (by rfl) (by rfl) (by rfl) (by intro z hz; simp only [List.mem_cons, List.not_mem_nil, or_false] at hz; rcases hz with rfl | rfl | rfl | rfl <;> simp) (by rfl)) (by rfl) 108 110 (by rfl) ⟨41, 108, [], [], RowF 3 w11.heap.size []⟩ (by simp) rfl (by simp) (by simp) [] rfl (by intro z hz; simp only [List.mem_cons, List.not_mem_nil, or_false] at hz; rcases hz with rfl | rfl | rfl | rfl <;> simp) w8.heap.size A2 k c2 (natsI q.slots) (by rfl) (S2.out.below B11.out) B11.out.size (by rw [lqq]; simp; omega) rfl
      · exact step_buf1_w (by simp only [List.getElem?_toArray, List.getElem?_cons_succ, List.getElem?_cons_zero]; rfl) (want_of (by rfl) (by rfl) (by rfl) (by intro z hz; simp only [List.mem_cons, List.not_mem_nil, or_false] at hz; rcases hz with rfl | rfl | rfl | rfl <;> simp) (by rfl)) (by rfl) 112 (by rfl) (by intro z hz; simp only [List.mem_cons, List.not_mem_nil, or_false] at hz; rcases hz with rfl | rfl | rfl | rfl <;> simp) _ (by rfl) rfl
      · exact step_add_w (by simp only [List.getElem?_toArray, List.getElem?_cons_succ, List.getElem?_cons_zero]; rfl) (want_of (by rfl) (by rfl) (by rfl) (by intro z hz; simp only [List.mem_cons, List.not_mem_nil, or_false] at hz; rcases hz with rfl | rfl | rfl | rfl <;> simp) (by rfl)) (by rfl) 111 113 (by rfl) ⟨44, 111, [41], [41], RowF 3 w11.heap.size (intC (natsI q.slots))⟩ (by simp) rfl (by simp) (by simp) (intC (natsI q.slots)) rfl ⟨46, 113, [], [], BufF 3 w11.heap.size [.int .i64 (s : Int)]⟩ (by simp) rfl (by simp) _ rfl (by rw [intC_len, lqq]; omega) rfl
    case hend =>
      intro vals w12 hb12 hs12 hF hap
      have f47 := hF ⟨47, 114, [44], [44, 46], RowF 3 w11.heap.size (intC (natsI q.slots) ++ [.int .i64 (s : Int)])⟩ (by simp) (by simp)
      clear hF hap
      simp only at f47
      obtain ⟨F2, n2, b2, hv47, o2⟩ := f47
      simp only [List.foldl_cons, List.foldl_nil, hv47]
      generalize vals 41 = x41
      generalize vals 44 = x44
      generalize vals 46 = x46
      clear hv47
      simp only [Act.put, List.setIfInBounds_toArray, List.set_cons_zero, List.set_cons_succ]
      have B12 := hide (B11.out.trans (hb12.mono B11.out.size))
      replace hHeld := CC.out w12 B12.out
      rw [intC_app, natsI_app, ← HF.out.2.1] at o2
      have N2 := hide (sl_of_ownI o2)
      have ln2 : n2 = kk := by have := own_lenI o2; rw [natsI_len, HE.out.1] at this; exact this.symm
      subst n2
      clear hb12 hs12 o2
      refine wpAnyH_ready (rs := [50]) (by kernel_rfl) (by simp) ?_
      refine AllReadyH.cons (by simp only [List.getElem?_toArray, List.getElem?_cons_succ, List.getElem?_cons_zero]; rfl) (fun K hK => ?_) ?_
      rotate_left 1
      · exact AllReadyH.nil
      go_simp
      refine (ints_any F2 G2 kk kk b2 e2 w12.heap.size w8.heap.size (natsI m.p.slots) (natsI m.p.slots) w12 N2.out (T2.out.below B12.out) (Nat.le_refl _) B12.out.size (by omega) (by omega)).mono ?_; rintro e w13 ⟨rfl, hb13⟩; have B13 := hide (B12.out.trans (hb13.mono B12.out.size)); have s13 := CC.out _ B13.out; clear hb13; go_wp2_with fail
      refine hK.out _ _ ?_ (fun hHeld2 => ?_)
      · ((try dsimp only) <;> (first | trivial | assumption | go_keep))
      clear hHeld
      have hHeld := hHeld2
      clear hHeld2 hK K
      try simp only [Act.put, List.setIfInBounds_toArray, List.set_cons_zero, List.set_cons_succ]
      refine wpAnyH_take (i := 51) (v := ?_) (by simp only [List.getElem?_toArray, List.getElem?_cons_succ, List.getElem?_cons_zero]; rfl) (by kernel_rfl) (by kernel_rfl) (by kernel_rfl) (fun _ _ _ h => h) (Or.inl ⟨by rfl, ?_⟩) (by assumption) ?_
      rotate_left 1
      · (intro w hSw; (try dsimp only at hSw); go_simp; try with_reducible rfl)
      try simp only [Act.put, List.setIfInBounds_toArray, List.set_cons_zero, List.set_cons_succ]
      refine wpAnyH_take (i := 52) (v := ?_) (by simp only [List.getElem?_toArray, List.getElem?_cons_succ, List.getElem?_cons_zero]; rfl) (by kernel_rfl) (by kernel_rfl) (by kernel_rfl) (fun _ _ _ h => h) (Or.inl ⟨by rfl, ?_⟩) (by assumption) ?_
      rotate_left 1
      · (intro w hSw; (try dsimp only at hSw); go_simp; try with_reducible rfl)
      try simp only [Act.put, List.setIfInBounds_toArray, List.set_cons_zero, List.set_cons_succ]
      refine wpAnyH_take (i := 53) (v := ?_) (by simp only [List.getElem?_toArray, List.getElem?_cons_succ, List.getElem?_cons_zero]; rfl) (by kernel_rfl) (by kernel_rfl) (by kernel_rfl) (fun _ _ _ h => h) (Or.inl ⟨by rfl, ?_⟩) (by assumption) ?_
      rotate_left 1
      · (intro w hSw; (try dsimp only at hSw); go_simp; try with_reducible rfl)
      try simp only [Act.put, List.setIfInBounds_toArray, List.set_cons_zero, List.set_cons_succ]
      refine wpAnyH_take (i := 54) (v := ?_) (by simp only [List.getElem?_toArray, List.getElem?_cons_succ, List.getElem?_cons_zero]; rfl) (by kernel_rfl) (by kernel_rfl) (by kernel_rfl) (fun _ _ _ h => h) (Or.inl ⟨by rfl, ?_⟩) (by assumption) ?_
      rotate_left 1
      · (intro w hSw; (try dsimp only at hSw); go_simp; try with_reducible rfl)
      try simp only [Act.put, List.setIfInBounds_toArray, List.set_cons_zero, List.set_cons_succ]
      refine wpAnyH_take (i := 55) (v := ?_) (by simp only [List.getElem?_toArray, List.getElem?_cons_succ, List.getElem?_cons_zero]; rfl) (by kernel_rfl) (by kernel_rfl) (by kernel_rfl) (fun _ _ _ h => h) (Or.inl ⟨by rfl, ?_⟩) (by assumption) ?_
      rotate_left 1
      · (intro w hSw; (try dsimp only at hSw); go_simp; try with_reducible rfl)
      try simp only [Act.put, List.setIfInBounds_toArray, List.set_cons_zero, List.set_cons_succ]
      refine wpAnyH_take (i := 56) (v := ?_) (by simp only [List.getElem?_toArray, List.getElem?_cons_succ, List.getElem?_cons_zero]; rfl) (by kernel_rfl) (by kernel_rfl) (by kernel_rfl) (fun _ _ _ h => h) (Or.inl ⟨by rfl, ?_⟩) (by assumption) ?_
      rotate_left 1
      · (intro w hSw; (try dsimp only at hSw); go_simp; try with_reducible rfl)
      try simp only [Act.put, List.setIfInBounds_toArray, List.set_cons_zero, List.set_cons_succ]
      refine wpAnyH_take (i := 57) (v := ?_) (by simp only [List.getElem?_toArray, List.getElem?_cons_succ, List.getElem?_cons_zero]; rfl) (by kernel_rfl) (by kernel_rfl) (by kernel_rfl) (fun _ _ _ h => h) (Or.inl ⟨by rfl, ?_⟩) (by assumption) ?_
      rotate_left 1
      · (intro w hSw; (try dsimp only at hSw); go_simp; try with_reducible rfl)
      try simp only [Act.put, List.setIfInBounds_toArray, List.set_cons_zero, List.set_cons_succ]
      refine wpAnyH_take (i := 58) (v := ?_) (by simp only [List.getElem?_toArray, List.getElem?_cons_succ, List.getElem?_cons_zero]; rfl) (by kernel_rfl) (by kernel_rfl) (by kernel_rfl) (fun _ _ _ h => h) (Or.inl ⟨by rfl, ?_⟩) (by assumption) ?_
      rotate_left 1
      · (intro w hSw; (try dsimp only at hSw); go_simp; try with_reducible rfl)
      try simp only [Act.put, List.setIfInBounds_toArray, List.set_cons_zero, List.set_cons_succ]
      refine wpAnyH_take (i := 59) (v := ?_) (by simp only [List.getElem?_toArray, List.getElem?_cons_succ, List.getElem?_cons_zero]; rfl) (by kernel_rfl) (by kernel_rfl) (by kernel_rfl) (fun _ _ _ h => h) (Or.inl ⟨by rfl, ?_⟩) (by assumption) ?_
      rotate_left 1
      · (intro w hSw; (try dsimp only at hSw); go_simp; try with_reducible rfl)
      try simp only [Act.put, List.setIfInBounds_toArray, List.set_cons_zero, List.set_cons_succ]
      refine wpAnyH_done (by kernel_rfl) ?_ _
      refine NoPanic.normal ?_
      go_wp2_with fail
      go_ret
      exact ⟨rfl, B8.out.trans (B13.out.mono B8.out.size)⟩
theorem parents_law (n : Int) (hn : I64 n) (w : World) (sp : SpanAt w) : Calls Tryd.prog 5 #[.int .i64 n] w fun e w' => e = .returned (.bool true) ∧ Below w.heap.size w w' := by
  rcases find_agree n with ⟨h1, h2, h3⟩ | ⟨m, h1, h2, h3, -⟩
  · exact parents_no n hn h2 h3 w sp
  · rcases h : m.p.metas.length with _ | k
    · exact parents_root n hn m h1 h3 (List.eq_nil_of_length_eq_zero h) w sp
    · exact parents_more n hn m h1 h3 k (k + 1) rfl h w sp
end Go.Proofs.YtakflabokbaibaaDoor
