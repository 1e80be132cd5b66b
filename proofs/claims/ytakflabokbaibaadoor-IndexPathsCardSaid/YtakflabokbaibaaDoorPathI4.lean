/- The walk over IndexPaths. -/
import Derived.Test.YtakflabokbaibaaDoorFinLW4
import Derived.Test.YtakflabokbaibaaDoorOneI4
set_option linter.unusedVariables false
set_option linter.unusedSimpArgs false
namespace Go.Proofs.YtakflabokbaibaaDoor
open Go.RowKit
attribute [local go_sem ↓] Go.wp_at_zero Go.wp_at_succ

theorem findL_fits {n : Int} {m : MetaL} : ∀ {l : List MetaL}, (∀ x ∈ l, x.level ≤ 3 ∧ x.first < 600) → findL n l = some m → m.level ≤ 3 ∧ m.first < 600
  | [], _, h => by cases h
  | x :: l, hl, h => by
    unfold findL at h
    split at h
    · cases h; exact hl _ (by simp)
    · split at h
      · rename_i hc
        cases h
        exact ⟨Nat.zero_le _, by have := hc.2; show n.toNat < 600; omega⟩
      · exact findL_fits (fun y hy => hl y (by simp [hy])) h
theorem all_item_or {n : Int} (m : MetaL) (h : findR n = some m) : m.level ≤ 3 ∧ m.first < 600 := by
  unfold findR at h
  split at h
  · cases h; exact ⟨Nat.zero_le _, by show n.toNat < 600; omega⟩
  · refine findL_fits (fun x hx => ?_) h
    obtain ⟨j, hj⟩ := List.getElem?_of_mem hx
    exact ⟨(all_item_len hj).2.2.1, (all_item_bd hj).2.2⟩
set_option maxHeartbeats 1000000 in
set_option maxRecDepth 100000 in
theorem paths_no (n : Int) (hn : I64 n) (hf : findP n = none) (hr : findR n = none) (ht : toP n = none) (w : World) (sp : SpanAt w) : Calls Tryd.prog 6 #[.int .i64 n] w fun e w' => e = .returned (.bool true) ∧ Below w.heap.size w w' := by
  have SP := hide sp
  have HN := hide hn
  clear sp hn
  go_enter Tryd.func6, Tryd.ntmps6
  go_wp2_with fail
  refine (awake04 w SP.out).mono ?_
  rintro e w1 ⟨rfl, hb1⟩
  have B1 := hide hb1
  clear hb1
  go_wp2_with fail
  refine (level_no n HN.out hf w1 (SP.out.bel B1.out)).mono ?_
  rintro e w2 ⟨rfl, hb2⟩
  have B2 := hide (B1.out.trans (hb2.mono B1.out.size))
  clear hb2
  go_wp2_with fail
  refine (covers_no n HN.out hf w2 (SP.out.bel B2.out)).mono ?_
  rintro e w3 ⟨rfl, hb3⟩
  have B3 := hide (B2.out.trans (hb3.mono B2.out.size))
  clear hb3 B1 B2
  go_wp2_with fail
  refine (to_none n HN.out ht w3 (SP.out.bel B3.out)).mono ?_
  rintro e w4 ⟨rfl, hb4⟩
  have K5 := hide (Blk.new w4 34 #[.int .i64 0, .slice none 0 0, .slice none 0 0])
  have B5 := hide ((B3.out.trans (hb4.mono B3.out.size)).alloc (Nat.le_trans B3.out.size hb4.size) (.cells #[.int .i64 0, .slice none 0 0, .slice none 0 0] 34))
  clear hb4
  go_wp2_with fail
  generalize hg : w4.heap.size = g5 at *
  generalize w4.alloc _ = w5 at *
  have C := findR_any n HN.out w5
  rw [hr] at C
  refine C.mono ?_
  clear C
  rintro e w6 ⟨he, hb6⟩
  have e' : e = _ := he
  subst e'
  have K7 := hide ((K5.out.below hb6).alloc (.cells #[.int .i64 0, .int .i64 0, .int .i64 0, .int .i64 0, .slice none 0 0, .slice none 0 0] 41))
  have B7 := hide ((B5.out.trans (hb6.mono B5.out.size)).alloc (Nat.le_trans B5.out.size hb6.size) (.cells #[.int .i64 0, .int .i64 0, .int .i64 0, .int .i64 0, .slice none 0 0, .slice none 0 0] 41))
  clear hb6 he
  have u0 := K7.out.cell 0
  have u1 := K7.out.cell 1
  have u2 := K7.out.cell 2
  simp only [List.getElem?_toArray, List.getElem?_cons_succ, List.getElem?_cons_zero] at u0 u1 u2
  go_wp2_with fail
  refine (ref_any 0 none none 0 0 0 0 _).mono ?_
  rintro e w8 ⟨rfl, hb8⟩
  have B8 := hide (B7.out.trans (hb8.mono B7.out.size))
  clear hb8
  go_wp2_with fail
  refine (same_any 0 0 none none none none 0 0 0 0 0 0 0 0 w8.heap.size w8.heap.size w8.heap.size w8.heap.size [] [] [] [] w8 (sl_of_nrow (base := 0) ⟨rfl, .inl ⟨rfl, rfl⟩⟩) (sl_of_nrow (base := 0) ⟨rfl, .inl ⟨rfl, rfl⟩⟩) (sl_of_nrow (base := 0) ⟨rfl, .inl ⟨rfl, rfl⟩⟩) (sl_of_nrow (base := 0) ⟨rfl, .inl ⟨rfl, rfl⟩⟩) (by simp) (by simp)).mono ?_
  rintro e w9 ⟨rfl, hb9⟩
  go_wp2_with fail
  go_ret
  exact ⟨rfl, B8.out.trans (hb9.mono B8.out.size)⟩
set_option maxHeartbeats 1000000 in
set_option maxRecDepth 100000 in
theorem paths_yes (n : Int) (hn : I64 n) (m : MetaL) (hf : findP n = some (m.level, m.first)) (hr : findR n = some m) (ht : toP n = some m.p) (w : World) (sp : SpanAt w) : Calls Tryd.prog 6 #[.int .i64 n] w fun e w' => e = .returned (.bool true) ∧ Below w.heap.size w w' := by
  have SP := hide sp
  have HN := hide hn
  clear sp hn
  go_enter Tryd.func6, Tryd.ntmps6
  go_wp2_with fail
  refine (awake04 w SP.out).mono ?_
  rintro e w1 ⟨rfl, hb1⟩
  have B1 := hide hb1
  clear hb1
  go_wp2_with fail
  refine (level_yes n HN.out hf w1 (SP.out.bel B1.out)).mono ?_
  rintro e w2 ⟨rfl, hb2⟩
  have B2 := hide (B1.out.trans (hb2.mono B1.out.size))
  clear hb2
  go_wp2_with fail
  refine (covers_yes n HN.out hf w2 (SP.out.bel B2.out)).mono ?_
  rintro e w3 ⟨rfl, hb3⟩
  have B3 := hide (B2.out.trans (hb3.mono B2.out.size))
  clear hb3 B1 B2
  go_wp2_with fail
  refine (to_any n HN.out ht w3 (SP.out.bel B3.out)).mono ?_
  rintro e w4 ⟨A1, c1, A2, c2, rfl, hpm, hb4⟩
  unfold pathA
  obtain ⟨k, hk⟩ : ∃ k, k = m.p.metas.length := ⟨_, rfl⟩
  have hsl : m.p.slots.length = k := by rw [hk]; exact (toP_len ht).1.symm
  have hk3 : k ≤ 3 := by rw [hk]; exact (toP_len ht).2.1
  rw [← hk] at hpm ⊢
  have HK := hide hk
  have HSL := hide hsl
  clear hk hsl
  have K5 := hide (Blk.new w4 34 #[.int .i64 (m.p.root : Int), .slice A1 k c1, .slice A2 k c2])
  have P5 := hide (hpm.below ((Below.refl _ _).alloc (Nat.le_refl _) (.cells #[.int .i64 (m.p.root : Int), .slice A1 k c1, .slice A2 k c2] 34)))
  have B5 := hide ((B3.out.trans (hb4.mono B3.out.size)).alloc (Nat.le_trans B3.out.size hb4.size) (.cells #[.int .i64 (m.p.root : Int), .slice A1 k c1, .slice A2 k c2] 34))
  clear hb4 hpm
  go_wp2_with fail
  generalize hg : w4.heap.size = g5 at K5 ⊢
  generalize w4.alloc _ = w5 at *
  have C := findR_any n HN.out w5
  rw [hr] at C
  refine C.mono ?_
  clear C
  rintro e w6 ⟨he, hb6⟩
  obtain ⟨E1, d1, E2, d2, rfl, r1, r2⟩ := he
  unfold metaV
  rw [HSL.out] at r2 ⊢
  rw [← HK.out] at r1 ⊢
  have hal := (Below.refl w6.heap.size w6).alloc (Nat.le_refl _) (.cells #[.int .i64 m.n, .int .i64 (m.level : Int), .int .i64 (m.first : Int), .int .i64 (m.p.root : Int), .slice E1 k d1, .slice E2 k d2] 41)
  have hb7 := hb6.trans (hal.mono hb6.size)
  have K7 := hide (K5.out.below hb7)
  have P7 := hide (P5.out.below hb7)
  have R1 := hide (r1.below hal)
  have R2 := hide (r2.below hal)
  have M7 := hide (Blk.new w6 41 #[.int .i64 m.n, .int .i64 (m.level : Int), .int .i64 (m.first : Int), .int .i64 (m.p.root : Int), .slice E1 k d1, .slice E2 k d2])
  have B7 := hide (B5.out.trans (hb7.mono B5.out.size))
  clear hb6 hb7 r1 r2 hal K5 P5 B5
  go_wp2_with fail
  generalize hg7 : w6.heap.size = g7 at M7 ⊢
  generalize w6.alloc _ = w7 at *
  clear hg hg7
  have cC : ∀ w' : World, Below w7.heap.size w7 w' → w'.cell? ⟨g7, 0, none⟩ = some (.int .i64 m.n) ∧ w'.cell? ⟨g7, 1, none⟩ = some (.int .i64 (m.level : Int)) ∧ w'.cell? ⟨g7, 2, none⟩ = some (.int .i64 (m.first : Int)) ∧ w'.cell? ⟨g7, 3, none⟩ = some (.int .i64 (m.p.root : Int)) ∧ w'.cell? ⟨g7, 4, none⟩ = some (.slice E1 k d1) ∧ w'.cell? ⟨g7, 5, none⟩ = some (.slice E2 k d2) ∧ w'.cell? ⟨g5, 0, none⟩ = some (.int .i64 (m.p.root : Int)) ∧ w'.cell? ⟨g5, 1, none⟩ = some (.slice A1 k c1) ∧ w'.cell? ⟨g5, 2, none⟩ = some (.slice A2 k c2) := fun w' hb => by
    have k1 := M7.out.below hb
    have k2 := K7.out.below hb
    exact ⟨k1.cell 0, k1.cell 1, k1.cell 2, k1.cell 3, k1.cell 4, k1.cell 5, k2.cell 0, k2.cell 1, k2.cell 2⟩
  have s0 := cC _ (Below.refl _ _).drew
  have CC := hide cC
  have hl3 := (all_item_or m hr).1
  have hf6 := (all_item_or m hr).2
  have MANY := hide (many_any m.n (m.p.root : Int) m.level m.first hl3 hf6 E1 E2 k d1 k d2)
  clear cC hf hr ht hl3 hf6
  refine wp_region_noPanic ?_
  refine wp_region_held_drew (S := (fun w' => w'.cell? ⟨g7, 0, none⟩ = some (.int .i64 m.n) ∧ w'.cell? ⟨g7, 1, none⟩ = some (.int .i64 (m.level : Int)) ∧ w'.cell? ⟨g7, 2, none⟩ = some (.int .i64 (m.first : Int)) ∧ w'.cell? ⟨g7, 3, none⟩ = some (.int .i64 (m.p.root : Int)) ∧ w'.cell? ⟨g7, 4, none⟩ = some (.slice E1 k d1) ∧ w'.cell? ⟨g7, 5, none⟩ = some (.slice E2 k d2) ∧ w'.cell? ⟨g5, 0, none⟩ = some (.int .i64 (m.p.root : Int)) ∧ w'.cell? ⟨g5, 1, none⟩ = some (.slice A1 k c1) ∧ w'.cell? ⟨g5, 2, none⟩ = some (.slice A2 k c2))) (by kernel_rfl) ?_ (fun hHeld => ?_)
  · ((try dsimp only) <;> (first | trivial | assumption | go_keep))
  clear s0
  refine wpAnyH_take (i := 0) (v := ?_) (by simp only [List.getElem?_toArray, List.getElem?_cons_succ, List.getElem?_cons_zero]; rfl) (by kernel_rfl) (by kernel_rfl) (by kernel_rfl) (fun _ _ _ h => h) (Or.inl ⟨by rfl, ?_⟩) (by assumption) ?_
  rotate_left 1
  · (intro w hSw; (try dsimp only at hSw); go_simp; try with_reducible rfl)
  try simp only [Act.put, List.setIfInBounds_toArray, List.set_cons_zero, List.set_cons_succ]
  refine wpAnyH_take (i := 1) (v := ?_) (by simp only [List.getElem?_toArray, List.getElem?_cons_succ, List.getElem?_cons_zero]; rfl) (by kernel_rfl) (by kernel_rfl) (by kernel_rfl) (fun _ _ _ h => h) (Or.inl ⟨by rfl, ?_⟩) (by assumption) ?_
  rotate_left 1
  · (intro w hSw; (try dsimp only at hSw); go_simp; try with_reducible rfl)
  try simp only [Act.put, List.setIfInBounds_toArray, List.set_cons_zero, List.set_cons_succ]
  refine wpAnyH_take (i := 2) (v := ?_) (by simp only [List.getElem?_toArray, List.getElem?_cons_succ, List.getElem?_cons_zero]; rfl) (by kernel_rfl) (by kernel_rfl) (by kernel_rfl) (fun _ _ _ h => h) (Or.inl ⟨by rfl, ?_⟩) (by assumption) ?_
  rotate_left 1
  · (intro w hSw; (try dsimp only at hSw); go_simp; try with_reducible rfl)
  try simp only [Act.put, List.setIfInBounds_toArray, List.set_cons_zero, List.set_cons_succ]
  refine wpAnyH_take (i := 3) (v := ?_) (by simp only [List.getElem?_toArray, List.getElem?_cons_succ, List.getElem?_cons_zero]; rfl) (by kernel_rfl) (by kernel_rfl) (by kernel_rfl) (fun _ _ _ h => h) (Or.inl ⟨by rfl, ?_⟩) (by assumption) ?_
  rotate_left 1
  · (intro w hSw; (try dsimp only at hSw); go_simp; try with_reducible rfl)
  try simp only [Act.put, List.setIfInBounds_toArray, List.set_cons_zero, List.set_cons_succ]
  refine wpAnyH_take (i := 4) (v := ?_) (by simp only [List.getElem?_toArray, List.getElem?_cons_succ, List.getElem?_cons_zero]; rfl) (by kernel_rfl) (by kernel_rfl) (by kernel_rfl) (fun _ _ _ h => h) (Or.inl ⟨by rfl, ?_⟩) (by assumption) ?_
  rotate_left 1
  · (intro w hSw; (try dsimp only at hSw); go_simp; try with_reducible rfl)
  try simp only [Act.put, List.setIfInBounds_toArray, List.set_cons_zero, List.set_cons_succ]
  refine wpAnyH_take (i := 5) (v := ?_) (by simp only [List.getElem?_toArray, List.getElem?_cons_succ, List.getElem?_cons_zero]; rfl) (by kernel_rfl) (by kernel_rfl) (by kernel_rfl) (fun _ _ _ h => h) (Or.inl ⟨by rfl, ?_⟩) (by assumption) ?_
  rotate_left 1
  · (intro w hSw; (try dsimp only at hSw); go_simp; try with_reducible rfl)
  try simp only [Act.put, List.setIfInBounds_toArray, List.set_cons_zero, List.set_cons_succ]
  refine wpAnyH_take (i := 6) (v := ?_) (by simp only [List.getElem?_toArray, List.getElem?_cons_succ, List.getElem?_cons_zero]; rfl) (by kernel_rfl) (by kernel_rfl) (by kernel_rfl) (fun _ _ _ h => h) (Or.inl ⟨by rfl, ?_⟩) (by assumption) ?_
  rotate_left 1
  · (intro w hSw; (try dsimp only at hSw); go_simp; try with_reducible rfl)
  try simp only [Act.put, List.setIfInBounds_toArray, List.set_cons_zero, List.set_cons_succ]
  refine wpAnyH_take (i := 7) (v := ?_) (by simp only [List.getElem?_toArray, List.getElem?_cons_succ, List.getElem?_cons_zero]; rfl) (by kernel_rfl) (by kernel_rfl) (by kernel_rfl) (fun _ _ _ h => h) (Or.inl ⟨by rfl, ?_⟩) (by assumption) ?_
  rotate_left 1
  · (intro w hSw; (try dsimp only at hSw); go_simp; try with_reducible rfl)
  try simp only [Act.put, List.setIfInBounds_toArray, List.set_cons_zero, List.set_cons_succ]
  refine wpAnyH_take (i := 8) (v := ?_) (by simp only [List.getElem?_toArray, List.getElem?_cons_succ, List.getElem?_cons_zero]; rfl) (by kernel_rfl) (by kernel_rfl) (by kernel_rfl) (fun _ _ _ h => h) (Or.inl ⟨by rfl, ?_⟩) (by assumption) ?_
  rotate_left 1
  · (intro w hSw; (try dsimp only at hSw); go_simp; try with_reducible rfl)
  try simp only [Act.put, List.setIfInBounds_toArray, List.set_cons_zero, List.set_cons_succ]
  refine wpAnyH_take (i := 9) (v := ?_) (by simp only [List.getElem?_toArray, List.getElem?_cons_succ, List.getElem?_cons_zero]; rfl) (by kernel_rfl) (by kernel_rfl) (by kernel_rfl) (fun _ _ _ h => h) (Or.inl ⟨by rfl, ?_⟩) (by assumption) ?_
  rotate_left 1
  · (intro w hSw; (try dsimp only at hSw); go_simp; try with_reducible rfl)
  try simp only [Act.put, List.setIfInBounds_toArray, List.set_cons_zero, List.set_cons_succ]
  refine wpAnyH_take (i := 10) (v := ?_) (by simp only [List.getElem?_toArray, List.getElem?_cons_succ, List.getElem?_cons_zero]; rfl) (by kernel_rfl) (by kernel_rfl) (by kernel_rfl) (fun _ _ _ h => h) (Or.inl ⟨by rfl, ?_⟩) (by assumption) ?_
  rotate_left 1
  · (intro w hSw; (try dsimp only at hSw); go_simp; try with_reducible rfl)
  try simp only [Act.put, List.setIfInBounds_toArray, List.set_cons_zero, List.set_cons_succ]
  refine wpAnyH_take (i := 11) (v := ?_) (by simp only [List.getElem?_toArray, List.getElem?_cons_succ, List.getElem?_cons_zero]; rfl) (by kernel_rfl) (by kernel_rfl) (by kernel_rfl) (fun _ _ _ h => h) (Or.inl ⟨by rfl, ?_⟩) (by assumption) ?_
  rotate_left 1
  · (intro w hSw; (try dsimp only at hSw); go_simp; try with_reducible rfl)
  try simp only [Act.put, List.setIfInBounds_toArray, List.set_cons_zero, List.set_cons_succ]
  refine wpAnyH_take (i := 12) (v := ?_) (by simp only [List.getElem?_toArray, List.getElem?_cons_succ, List.getElem?_cons_zero]; rfl) (by kernel_rfl) (by kernel_rfl) (by kernel_rfl) (fun _ _ _ h => h) (Or.inl ⟨by rfl, ?_⟩) (by assumption) ?_
  rotate_left 1
  · (intro w hSw; (try dsimp only at hSw); go_simp; try with_reducible rfl)
  try simp only [Act.put, List.setIfInBounds_toArray, List.set_cons_zero, List.set_cons_succ]
  refine wpAnyH_take (i := 13) (v := ?_) (by simp only [List.getElem?_toArray, List.getElem?_cons_succ, List.getElem?_cons_zero]; rfl) (by kernel_rfl) (by kernel_rfl) (by kernel_rfl) (fun _ _ _ h => h) (Or.inl ⟨by rfl, ?_⟩) (by assumption) ?_
  rotate_left 1
  · (intro w hSw; (try dsimp only at hSw); go_simp; try with_reducible rfl)
  try simp only [Act.put, List.setIfInBounds_toArray, List.set_cons_zero, List.set_cons_succ]
  refine wpAnyH_take (i := 14) (v := ?_) (by simp only [List.getElem?_toArray, List.getElem?_cons_succ, List.getElem?_cons_zero]; rfl) (by kernel_rfl) (by kernel_rfl) (by kernel_rfl) (fun _ _ _ h => h) (Or.inl ⟨by rfl, ?_⟩) (by assumption) ?_
  rotate_left 1
  · (intro w hSw; (try dsimp only at hSw); go_simp; try with_reducible rfl)
  try simp only [Act.put, List.setIfInBounds_toArray, List.set_cons_zero, List.set_cons_succ]
  refine wpAnyH_take (i := 15) (v := ?_) (by simp only [List.getElem?_toArray, List.getElem?_cons_succ, List.getElem?_cons_zero]; rfl) (by kernel_rfl) (by kernel_rfl) (by kernel_rfl) (fun _ _ _ h => h) (Or.inl ⟨by rfl, ?_⟩) (by assumption) ?_
  rotate_left 1
  · (intro w hSw; (try dsimp only at hSw); go_simp; try with_reducible rfl)
  try simp only [Act.put, List.setIfInBounds_toArray, List.set_cons_zero, List.set_cons_succ]
  refine wpAnyH_take (i := 16) (v := ?_) (by simp only [List.getElem?_toArray, List.getElem?_cons_succ, List.getElem?_cons_zero]; rfl) (by kernel_rfl) (by kernel_rfl) (by kernel_rfl) (fun _ _ _ h => h) (Or.inl ⟨by rfl, ?_⟩) (by assumption) ?_
  rotate_left 1
  · (intro w hSw; (try dsimp only at hSw); go_simp; try with_reducible rfl)
  try simp only [Act.put, List.setIfInBounds_toArray, List.set_cons_zero, List.set_cons_succ]
  refine wpAnyH_take (i := 17) (v := ?_) (by simp only [List.getElem?_toArray, List.getElem?_cons_succ, List.getElem?_cons_zero]; rfl) (by kernel_rfl) (by kernel_rfl) (by kernel_rfl) (fun _ _ _ h => h) (Or.inl ⟨by rfl, ?_⟩) (by assumption) ?_
  rotate_left 1
  · (intro w hSw; (try dsimp only at hSw); go_simp; try with_reducible rfl)
  try simp only [Act.put, List.setIfInBounds_toArray, List.set_cons_zero, List.set_cons_succ]
  refine wpAnyH_take (i := 18) (v := ?_) (by simp only [List.getElem?_toArray, List.getElem?_cons_succ, List.getElem?_cons_zero]; rfl) (by kernel_rfl) (by kernel_rfl) (by kernel_rfl) (fun _ _ _ h => h) (Or.inl ⟨by rfl, ?_⟩) (by assumption) ?_
  rotate_left 1
  · (intro w hSw; (try dsimp only at hSw); go_simp; try with_reducible rfl)
  try simp only [Act.put, List.setIfInBounds_toArray, List.set_cons_zero, List.set_cons_succ]
  refine wpAnyH_take (i := 19) (v := ?_) (by simp only [List.getElem?_toArray, List.getElem?_cons_succ, List.getElem?_cons_zero]; rfl) (by kernel_rfl) (by kernel_rfl) (by kernel_rfl) (fun _ _ _ h => h) (Or.inl ⟨by rfl, ?_⟩) (by assumption) ?_
  rotate_left 1
  · (intro w hSw; (try dsimp only at hSw); go_simp; try with_reducible rfl)
  try simp only [Act.put, List.setIfInBounds_toArray, List.set_cons_zero, List.set_cons_succ]
  refine wpAnyH_take (i := 20) (v := ?_) (by simp only [List.getElem?_toArray, List.getElem?_cons_succ, List.getElem?_cons_zero]; rfl) (by kernel_rfl) (by kernel_rfl) (by kernel_rfl) (fun _ _ _ h => h) (Or.inl ⟨by rfl, ?_⟩) (by assumption) ?_
  rotate_left 1
  · (intro w hSw; (try dsimp only at hSw); go_simp; try with_reducible rfl)
  try simp only [Act.put, List.setIfInBounds_toArray, List.set_cons_zero, List.set_cons_succ]
  refine wpAnyH_take (i := 21) (v := ?_) (by simp only [List.getElem?_toArray, List.getElem?_cons_succ, List.getElem?_cons_zero]; rfl) (by kernel_rfl) (by kernel_rfl) (by kernel_rfl) (fun _ _ _ h => h) (Or.inl ⟨by rfl, ?_⟩) (by assumption) ?_
  rotate_left 1
  · (intro w hSw; (try dsimp only at hSw); go_simp; try with_reducible rfl)
  try simp only [Act.put, List.setIfInBounds_toArray, List.set_cons_zero, List.set_cons_succ]
  refine wpAnyH_take (i := 22) (v := ?_) (by simp only [List.getElem?_toArray, List.getElem?_cons_succ, List.getElem?_cons_zero]; rfl) (by kernel_rfl) (by kernel_rfl) (by kernel_rfl) (fun _ _ _ h => h) (Or.inl ⟨by rfl, ?_⟩) (by assumption) ?_
  rotate_left 1
  · (intro w hSw; (try dsimp only at hSw); go_simp; try with_reducible rfl)
  try simp only [Act.put, List.setIfInBounds_toArray, List.set_cons_zero, List.set_cons_succ]
  refine wpAnyH_take (i := 23) (v := ?_) (by simp only [List.getElem?_toArray, List.getElem?_cons_succ, List.getElem?_cons_zero]; rfl) (by kernel_rfl) (by kernel_rfl) (by kernel_rfl) (fun _ _ _ h => h) (Or.inl ⟨by rfl, ?_⟩) (by assumption) ?_
  rotate_left 1
  · (intro w hSw; (try dsimp only at hSw); go_simp; try with_reducible rfl)
  try simp only [Act.put, List.setIfInBounds_toArray, List.set_cons_zero, List.set_cons_succ]
  refine wpAnyH_take (i := 24) (v := ?_) (by simp only [List.getElem?_toArray, List.getElem?_cons_succ, List.getElem?_cons_zero]; rfl) (by kernel_rfl) (by kernel_rfl) (by kernel_rfl) (fun _ _ _ h => h) (Or.inl ⟨by rfl, ?_⟩) (by assumption) ?_
  rotate_left 1
  · (intro w hSw; (try dsimp only at hSw); go_simp; try with_reducible rfl)
  try simp only [Act.put, List.setIfInBounds_toArray, List.set_cons_zero, List.set_cons_succ]
  refine wpAnyH_ready (rs := [25]) (by kernel_rfl) (by simp) ?_
  refine AllReadyH.cons (by simp only [List.getElem?_toArray, List.getElem?_cons_succ, List.getElem?_cons_zero]; rfl) (fun K hK => ?_) ?_
  rotate_left 1
  · exact AllReadyH.nil
  go_simp
  refine (MANY.out _).mono ?_; rintro e w8 ⟨rfl, hb8⟩; have B8 := hide ((Below.refl w7.heap.size w7).drew.trans (hb8.mono (Nat.le_refl _))); have s1 := CC.out _ B8.out; clear hb8; go_wp2_with fail
  refine hK.out _ _ ?_ (fun hHeld2 => ?_)
  · ((try dsimp only) <;> (first | trivial | assumption | go_keep))
  clear hHeld
  have hHeld := hHeld2
  clear hHeld2 hK K
  try simp only [Act.put, List.setIfInBounds_toArray, List.set_cons_zero, List.set_cons_succ]
  refine wpAnyH_take (i := 26) (v := ?_) (by simp only [List.getElem?_toArray, List.getElem?_cons_succ, List.getElem?_cons_zero]; rfl) (by kernel_rfl) (by kernel_rfl) (by kernel_rfl) (fun _ _ _ h => h) (Or.inl ⟨by rfl, ?_⟩) (by assumption) ?_
  rotate_left 1
  · (intro w hSw; (try dsimp only at hSw); go_simp; try with_reducible rfl)
  try simp only [Act.put, List.setIfInBounds_toArray, List.set_cons_zero, List.set_cons_succ]
  refine wpAnyH_take (i := 27) (v := ?_) (by simp only [List.getElem?_toArray, List.getElem?_cons_succ, List.getElem?_cons_zero]; rfl) (by kernel_rfl) (by kernel_rfl) (by kernel_rfl) (fun _ _ _ h => h) (Or.inl ⟨by rfl, ?_⟩) (by assumption) ?_
  rotate_left 1
  · (intro w hSw; (try dsimp only at hSw); go_simp; try with_reducible rfl)
  try simp only [Act.put, List.setIfInBounds_toArray, List.set_cons_zero, List.set_cons_succ]
  refine wpAnyH_take (i := 28) (v := ?_) (by simp only [List.getElem?_toArray, List.getElem?_cons_succ, List.getElem?_cons_zero]; rfl) (by kernel_rfl) (by kernel_rfl) (by kernel_rfl) (fun _ _ _ h => h) (Or.inl ⟨by rfl, ?_⟩) (by assumption) ?_
  rotate_left 1
  · (intro w hSw; (try dsimp only at hSw); go_simp; try with_reducible rfl)
  try simp only [Act.put, List.setIfInBounds_toArray, List.set_cons_zero, List.set_cons_succ]
  refine wpAnyH_take (i := 29) (v := ?_) (by simp only [List.getElem?_toArray, List.getElem?_cons_succ, List.getElem?_cons_zero]; rfl) (by kernel_rfl) (by kernel_rfl) (by kernel_rfl) (fun _ _ _ h => h) (Or.inl ⟨by rfl, ?_⟩) (by assumption) ?_
  rotate_left 1
  · (intro w hSw; (try dsimp only at hSw); go_simp; try with_reducible rfl)
  try simp only [Act.put, List.setIfInBounds_toArray, List.set_cons_zero, List.set_cons_succ]
  refine wpAnyH_take (i := 31) (v := ?_) (by simp only [List.getElem?_toArray, List.getElem?_cons_succ, List.getElem?_cons_zero]; rfl) (by kernel_rfl) (by kernel_rfl) (by kernel_rfl) (fun _ _ _ h => h) (Or.inl ⟨by rfl, ?_⟩) (by assumption) ?_
  rotate_left 1
  · (intro w hSw; (try dsimp only at hSw); go_simp; try with_reducible rfl)
  try simp only [Act.put, List.setIfInBounds_toArray, List.set_cons_zero, List.set_cons_succ]
  refine wpAnyH_take (i := 32) (v := ?_) (by simp only [List.getElem?_toArray, List.getElem?_cons_succ, List.getElem?_cons_zero]; rfl) (by kernel_rfl) (by kernel_rfl) (by kernel_rfl) (fun _ _ _ h => h) (Or.inl ⟨by rfl, ?_⟩) (by assumption) ?_
  rotate_left 1
  · (intro w hSw; (try dsimp only at hSw); go_simp; try with_reducible rfl)
  try simp only [Act.put, List.setIfInBounds_toArray, List.set_cons_zero, List.set_cons_succ]
  refine wpAnyH_ready (rs := [30]) (by kernel_rfl) (by simp) ?_
  refine AllReadyH.cons (by simp only [List.getElem?_toArray, List.getElem?_cons_succ, List.getElem?_cons_zero]; rfl) (fun K hK => ?_) ?_
  rotate_left 1
  · exact AllReadyH.nil
  go_simp
  refine (ref_any _ _ _ _ _ _ _ _).mono ?_; rintro e w9 ⟨rfl, hb9⟩; have B9 := hide (B8.out.trans (hb9.mono B8.out.size)); have s2 := CC.out _ B9.out; clear hb9; go_wp2_with fail
  refine hK.out _ _ ?_ (fun hHeld2 => ?_)
  · ((try dsimp only) <;> (first | trivial | assumption | go_keep))
  clear hHeld
  have hHeld := hHeld2
  clear hHeld2 hK K
  try simp only [Act.put, List.setIfInBounds_toArray, List.set_cons_zero, List.set_cons_succ]
  refine wpAnyH_ready (rs := [33]) (by kernel_rfl) (by simp) ?_
  refine AllReadyH.cons (by simp only [List.getElem?_toArray, List.getElem?_cons_succ, List.getElem?_cons_zero]; rfl) (fun K hK => ?_) ?_
  rotate_left 1
  · exact AllReadyH.nil
  go_simp
  refine (same_any (m.p.root : Int) (m.p.root : Int) A1 A2 E1 E2 k c1 k c2 k d1 k d2 w7.heap.size w7.heap.size w7.heap.size w7.heap.size m.p.metas (natsI m.p.slots) m.p.metas (natsI m.p.slots) w9 ((sl_of_ownI P7.out.m).below B9.out) ((sl_of_ownI P7.out.s).below B9.out) ((sl_of_nrow R1.out).below B9.out) ((sl_of_nrow R2.out).below B9.out) ⟨B9.out.size, B9.out.size, B9.out.size, B9.out.size⟩ ⟨by omega, by omega, by omega, by omega⟩).mono ?_; rintro e w10 ⟨rfl, hb10⟩; have B10 := hide (B9.out.trans (hb10.mono B9.out.size)); have s3 := CC.out _ B10.out; clear hb10; go_wp2_with fail
  refine hK.out _ _ ?_ (fun hHeld2 => ?_)
  · ((try dsimp only) <;> (first | trivial | assumption | go_keep))
  clear hHeld
  have hHeld := hHeld2
  clear hHeld2 hK K
  try simp only [Act.put, List.setIfInBounds_toArray, List.set_cons_zero, List.set_cons_succ]
  refine wpAnyH_take (i := 34) (v := ?_) (by simp only [List.getElem?_toArray, List.getElem?_cons_succ, List.getElem?_cons_zero]; rfl) (by kernel_rfl) (by kernel_rfl) (by kernel_rfl) (fun _ _ _ h => h) (Or.inl ⟨by rfl, ?_⟩) (by assumption) ?_
  rotate_left 1
  · (intro w hSw; (try dsimp only at hSw); go_simp; try with_reducible rfl)
  try simp only [Act.put, List.setIfInBounds_toArray, List.set_cons_zero, List.set_cons_succ]
  refine wpAnyH_take (i := 35) (v := ?_) (by simp only [List.getElem?_toArray, List.getElem?_cons_succ, List.getElem?_cons_zero]; rfl) (by kernel_rfl) (by kernel_rfl) (by kernel_rfl) (fun _ _ _ h => h) (Or.inl ⟨by rfl, ?_⟩) (by assumption) ?_
  rotate_left 1
  · (intro w hSw; (try dsimp only at hSw); go_simp; try with_reducible rfl)
  try simp only [Act.put, List.setIfInBounds_toArray, List.set_cons_zero, List.set_cons_succ]
  refine wpAnyH_done (by kernel_rfl) ?_ _
  refine NoPanic.normal ?_
  go_wp2_with fail
  go_ret
  exact ⟨by simp, B7.out.trans (B10.out.mono B7.out.size)⟩
theorem paths_law (n : Int) (hn : I64 n) (w : World) (sp : SpanAt w) : Calls Tryd.prog 6 #[.int .i64 n] w fun e w' => e = .returned (.bool true) ∧ Below w.heap.size w w' := by
  rcases find_agree n with ⟨h1, h2, h3⟩ | ⟨m, h1, h2, h3, -⟩
  · exact paths_no n hn h1 h2 h3 w sp
  · exact paths_yes n hn m h2 h1 h3 w sp
end Go.Proofs.YtakflabokbaibaaDoor
