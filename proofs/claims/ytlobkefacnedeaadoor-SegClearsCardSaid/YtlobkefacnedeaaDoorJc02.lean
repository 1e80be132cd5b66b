import Derived.Test.YtlobkefacnedeaaDoorJc01
import Derived.Lib.AppendStr
set_option linter.unusedVariables false
set_option linter.unusedSimpArgs false
/- The walk over the reference's Barrier. -/
namespace Go.Proofs.YtlobkefacnedeaaDoor
open Go.RowKit
set_option maxRecDepth 100000
attribute [local go_sem ↓] Go.wp_at_zero Go.wp_at_succ

theorem rbar_dead (As : Option Addr) (cs : Nat) (Aq : Option Addr) (cq : Nat) (D : Dsk) (w : World) (hl : D.left = 0) :
    Calls Tryd.prog 56 #[.agg (refV As cs Aq cq D)] w fun e w' => e = .returned (.tuple #[.agg (refV As cs Aq cq D), .int .i64 102]) ∧ Below w.heap.size w w' := by
  have C := hide (fun w => rstep_dead As cs Aq cq D w hl)
  unfold refV at C ⊢
  clear hl
  go_enter Tryd.func56, Tryd.ntmps56
  go_wp2_with fail
  refine (C.out _).mono ?_
  rintro e w1 ⟨rfl, hb1⟩
  obtain ⟨K1, K2, hb, hs⟩ := two_boxes hb1
  obtain ⟨c0, c1, c2, c3, f0, f1, f2, f3⟩ := blk4 K1
  obtain ⟨d0, d1, d2, d3, e0, e1, e2, e3⟩ := blk4 K2
  have Hb := hide hb
  clear hb1 hb hs K1 K2
  go_wp2_with fail
  exact bodyPost_ret (v := .tuple #[.agg _, _]) (by simp [results, Tryd.results56, go_sem, d0, d1, d2, d3]) rfl ⟨rfl, bel4 (bel4 Hb.out (Nat.le_refl _) _ _ _ _) (Nat.le_succ _) _ _ _ _⟩

theorem own_set {w : World} {base n c k : Nat} {e : TypeId} {A : Option Addr} {xs : List Value} (h : w.ownsRow base e 1 (.slice A n c) n xs) (hk : k < n) :
    ∃ g u, A = some ⟨g, 0, none⟩ ∧ base ≤ g ∧ g < w.heap.size ∧ w.cell? ⟨g, k, none⟩ = some u ∧ w.frozen? ⟨g, k, none⟩ = false ∧ ∀ v, (w.setCell ⟨g, k, none⟩ v).ownsRow base e 1 (.slice A n c) n (xs.set k v) := by
  obtain ⟨ad, u, hA, h1, h2, -, h4, h5, h6⟩ := own_at h hk
  rcases h.2 with ⟨hv, _⟩ | ⟨g, cap, cur, hv, _⟩
  · rw [hA] at hv; injection hv with hv; cases hv
  · injection hv with hv
    rw [hA] at hv
    injection hv with hv
    subst hv
    rw [Addr.add_mid, Nat.zero_add] at h4 h5
    refine ⟨g, u, hA, h1, h2, h4, h5, fun v => ?_⟩
    have := h6 v
    rwa [Addr.add_mid, Nat.zero_add] at this
theorem Dsk.Ok.barred {D : Dsk} (h : D.Ok) (hs : D.steps < 1000000) : D.barred.Ok :=
  { h.stepped hs with b := putQ_64 _ _ (fun y hy => (h.q y hy).1) h.b, q := (fun y hy => by cases hy), n := (by rw [show D.barred.sure.length = D.sure.length from putQ_len _ _]; exact h.n), qn := Nat.zero_le _ }

set_option maxHeartbeats 1000000 in
set_option maxRecDepth 100000 in
theorem rbar_ok (base : Nat) (As : Option Addr) (cs : Nat) (Aq : Option Addr) (cq : Nat) (D : Dsk) (w : World) (h : RefM w base As cs Aq cq D) (hbs : base ≤ w.heap.size) (hl : D.left ≠ 0) (hs : D.steps < 1000000) :
    Calls Tryd.prog 56 #[.agg (refV As cs Aq cq D)] w fun e w' => ∃ A' c', e = .returned (.tuple #[.agg (refV A' c' none 0 D.barred), .int .i64 0]) ∧ RefM w' base A' c' none 0 D.barred ∧ Below w.heap.size w w' ∧ (∀ g, (Value.slice A' 0 0).ownBlock = some g → w.heap.size ≤ g) := by
  have hok := h.ok.barred hs
  have C := hide (fun w => rstep_ok As cs Aq cq D w hl h.ok hs)
  have hn := h.ok.n
  have hqn := h.ok.qn
  have hq := hide h.ok.q
  have H := hide h
  unfold refV at C ⊢
  have hs1 : D.stepped.sure.length = D.sure.length := rfl
  have hs2 : D.stepped.queue.length = D.queue.length := rfl
  rw [hs1, hs2] at C
  generalize hst : (D.stepped.steps : Int) = st at *
  generalize hlf : D.stepped.left = lf at *
  replace hst := hide hst
  replace hlf := hide hlf
  replace hok := hide hok
  clear hl h hs1 hs2
  go_enter Tryd.func56, Tryd.ntmps56
  go_wp2_with fail
  refine (C.out _).mono ?_
  rintro e w1 ⟨rfl, hb1⟩
  obtain ⟨K1, K2, hb, hs⟩ := two_boxes hb1
  have HK1 := hide K1
  have HK2 := hide K2
  obtain ⟨c0, c1, c2, c3, f0, f1, f2, f3⟩ := blk4 K1
  have Hb := hide hb
  clear hb1 hb hs K1 K2 C
  go_upto_region 4 with fail
  have J1 := hide (set4 HK1.out (.slice As D.sure.length cs) (.slice Aq D.queue.length cq) (.int .i64 st) (.int .i64 lf))
  have J2 := hide (far4 HK2.out (Nat.succ_ne_self _) (.slice As D.sure.length cs) (.slice Aq D.queue.length cq) (.int .i64 st) (.int .i64 lf))
  have Hb2 := hide (bel4 Hb.out (Nat.le_refl _) (.slice As D.sure.length cs) (.slice Aq D.queue.length cq) (.int .i64 st) (.int .i64 lf))
  clear c0 c1 c2 c3 f0 f1 f2 f3 HK1 HK2 Hb
  generalize (((w1.setCell ⟨w.heap.size, 0, none⟩ (.slice As D.sure.length cs)).setCell ⟨w.heap.size, 1, none⟩ (.slice Aq D.queue.length cq)).setCell ⟨w.heap.size, 2, none⟩ (.int .i64 st)).setCell ⟨w.heap.size, 3, none⟩ (.int .i64 lf) = w2 at *
  have c1 : (w2.alloc (.cells #[] 9)).cell? ⟨w.heap.size, 0, none⟩ = some (.slice As D.sure.length cs) := (J1.out.alloc _).cell 0
  have hs2 : Hid (w.heap.size + 2 ≤ w2.heap.size) := hide (by have := J2.out.lt; omega)
  go_wp2_with (
    at_builtin
    obtain ⟨ie, hie, z1, z2, z3⟩ := str_info
    refine wpList_appk _ rfl (.tmp 14) (.tmp 16) _ rfl Tryd.underlying43 hie z1 z2 z3 rfl (by decide) (by decide) w.heap.size (.slice (some ⟨w2.heap.size, 0, none⟩) 0 0) 0 [] rfl (own_made Hb2.out.size) base As D.sure.length cs (strC D.sure) rfl
      (own_kp (H.out.below Hb2.out).s (Kp.of_below (gs := []) ((Below.refl _ _).alloc (Nat.le_refl _) _)) (by simp)) (strC_one _) (by omega) (Nat.le_trans Hb2.out.size (by simp)) ?_
    intro A3 cA w3 hown3 hg3 hat3
    simp only [Nat.zero_add, List.nil_append] at hown3 hat3
    have L1 := hide (blk_grown (J1.out.alloc (.cells #[] 9)) hg3 (by simp [Value.ownBlock]; have := J1.out.lt; omega))
    have L2 := hide (blk_grown (J2.out.alloc (.cells #[] 9)) hg3 (by simp [Value.ownBlock]; have := J2.out.lt; omega))
    have Lb := hide (bel_grow (Hb2.out.alloc Hb2.out.size (.cells #[] 9)) hg3 (fun k hk => by simp only [Value.ownBlock, Option.some.injEq] at hk; have := hs2.out; omega) (Nat.le_trans Hb2.out.size (by simp)))
    have Ho := hide hown3
    have Ha := hide (show ∀ g, (Value.slice A3 D.sure.length cA).ownBlock = some g → w.heap.size + 2 ≤ g ∧ g < w3.heap.size from fun g hg => ⟨by
      have := hs2.out
      rcases hat3 with h | h
      · rw [hg] at h; simp [Value.ownBlock] at h; omega
      · rw [hg] at h; simp at h; omega, (hown3.lt g hg).2⟩)
    have hs3 : w.heap.size ≤ w3.heap.size := Lb.out.size
    clear hown3 hg3 hat3 J1 J2
    obtain ⟨c0, c1, c2, c3, f0, f1, f2, f3⟩ := blk4 L1.out)
  have N1 := hide (L1.out.set 0 (.slice A3 D.sure.length cA))
  have N2 : Hid (∃ z0 z1 z2 z3, Blk (w3.setCell ⟨w.heap.size, 0, none⟩ (.slice A3 D.sure.length cA)) (w.heap.size + 1) 51 #[z0, z1, z2, z3]) := hide ⟨_, _, _, _, L2.out.far (p := ⟨w.heap.size, 0, none⟩) (Nat.succ_ne_self _) _⟩
  have Nb := hide (Lb.out.setCell (p := ⟨w.heap.size, 0, none⟩) (Nat.le_refl _) (.slice A3 D.sure.length cA))
  have No := hide (own_kp Ho.out ((Kp.refl [w.heap.size] w3).set (p := ⟨w.heap.size, 0, none⟩) (.inl (by simp)) (.slice A3 D.sure.length cA)) (fun g hg => by have := (Ha.out g hg).1; simp; omega))
  have Ha2 := hide (fun g (hg : (Value.slice A3 D.sure.length cA).ownBlock = some g) => (Ha.out g hg).1)
  clear L1 L2 Lb Ho Ha c0 c1 c2 c3 f0 f1 f2 f3
  generalize w3.setCell ⟨w.heap.size, 0, none⟩ (.slice A3 D.sure.length cA) = w4 at *
  go_loopw [22] (fun x wr => ∃ j : Nat, j ≤ D.queue.length ∧ x = .int .i64 (j : Int) ∧ Blk wr w.heap.size 51 #[.slice A3 D.sure.length cA, .slice Aq D.queue.length cq, .int .i64 st, .int .i64 lf] ∧ (∃ z0 z1 z2 z3, Blk wr (w.heap.size + 1) 51 #[z0, z1, z2, z3]) ∧
    wr.ownsRow w.heap.size 9 1 (.slice A3 D.sure.length cA) D.sure.length (strC (putQ (D.queue.take j) D.sure)) ∧ Below w.heap.size w wr) (fun x _ => D.queue.length - (intOf x).toNat)
  case atStart => exact ⟨0, Nat.zero_le _, rfl, N1.out, N2.out, No.out, Nb.out⟩
  case round =>
    obtain ⟨j, hj, rfl, g1, g2, g3, g4⟩ := hrel
    have G1 := hide g1
    have G2 := hide g2
    have G3 := hide g3
    have G4 := hide g4
    clear g1 g2 g3 g4 N1 N2 No Nb
    by_cases hlt : j < D.queue.length
    · obtain ⟨x, hx⟩ : ∃ x, D.queue[j]? = some x := ⟨_, List.getElem?_eq_getElem hlt⟩
      obtain ⟨hxl, hxs⟩ := hq.out x (List.mem_of_getElem? hx)
      obtain ⟨gq, hAq, q1, q2⟩ := (H.out.below G4.out).atQ j x hx
      have hgq : gq < w.heap.size := by
        have := (H.out.qLt gq (by rw [hAq]; rfl)).2
        exact this
      obtain ⟨g, u, hA3, hg1, hg2, s1, s2, s3⟩ := own_set G3.out hxs
      have hgb := Ha2.out g (by rw [hA3]; rfl)
      have hst := hide (putQ_step D.queue j D.sure x hx)
      have P3 := hide (s3 (.string (txt x.2)))
      have P1 := hide (G1.out.far (p := ⟨g, x.1, none⟩) (show w.heap.size ≠ g by omega) (.string (txt x.2)))
      have P2 : Hid (∃ z0 z1 z2 z3, Blk (wr.setCell ⟨g, x.1, none⟩ (.string (txt x.2))) (w.heap.size + 1) 51 #[z0, z1, z2, z3]) := by
        obtain ⟨z0, z1, z2, z3, hz⟩ := G2.out
        exact hide ⟨z0, z1, z2, z3, hz.far (p := ⟨g, x.1, none⟩) (show w.heap.size + 1 ≠ g by omega) _⟩
      have P4 := hide (G4.out.setCell (p := ⟨g, x.1, none⟩) (show w.heap.size ≤ g by omega) (.string (txt x.2)))
      have S1 : wr.cell? ⟨w.heap.size, 0, none⟩ = some (.slice A3 D.sure.length cA) := G1.out.cell 0
      have S2 : wr.cell? ⟨w.heap.size, 1, none⟩ = some (.slice Aq D.queue.length cq) := G1.out.cell 1
      have T1 : (wr.setCell ⟨g, x.1, none⟩ (.string (txt x.2))).cell? ⟨w.heap.size, 0, none⟩ = some (.slice A3 D.sure.length cA) := P1.out.cell 0
      have T2 : (wr.setCell ⟨g, x.1, none⟩ (.string (txt x.2))).cell? ⟨w.heap.size, 1, none⟩ = some (.slice Aq D.queue.length cq) := P1.out.cell 1
      have T3 : (wr.setCell ⟨g, x.1, none⟩ (.string (txt x.2))).cell? ⟨gq, j * 2, none⟩ = some (.int .i64 (x.1 : Int)) := (World.cell?_of_block (Below.heap_setCell wr ⟨g, x.1, none⟩ _ gq (show gq ≠ g by omega))).trans q1
      have T4 : (wr.setCell ⟨g, x.1, none⟩ (.string (txt x.2))).cell? ⟨gq, j * 2 + 1, none⟩ = some (.string (txt x.2)) := (World.cell?_of_block (Below.heap_setCell wr ⟨g, x.1, none⟩ _ gq (show gq ≠ g by omega))).trans q2
      subst hA3 hAq
      clear s3 hx hgq hgb hg1 hg2
      go_wp2_with fail
      refine wp_region_noPanic ?_
      refine wp_region_held_drew (S := (fun w' => w'.cell? ⟨w.heap.size, 0, none⟩ = some (.slice (some ⟨g, 0, none⟩) D.sure.length cA) ∧ w'.cell? ⟨w.heap.size, 1, none⟩ = some (.slice (some ⟨gq, 0, none⟩) D.queue.length cq) ∧ w'.cell? ⟨gq, j * 2, none⟩ = some (.int .i64 (x.1 : Int)) ∧ w'.cell? ⟨gq, j * 2 + 1, none⟩ = some (.string (txt x.2)))) (by kernel_rfl) ?_ (fun hHeld => ?_)
      · ((try dsimp only) <;> (first | trivial | assumption | go_keep))
      refine wpAnyH_take (i := 0) (v := ?_) (by simp only [List.getElem?_toArray, List.getElem?_cons_succ, List.getElem?_cons_zero]; rfl) (by kernel_rfl) (by kernel_rfl) (by kernel_rfl) (fun _ _ _ h => h) (Or.inl ⟨by rfl, ?_⟩) (by assumption) ?_
      rotate_left 1
      · (intro w hSw; (try dsimp only at hSw); go_simp; try with_reducible rfl)
      try simp only [Act.put, List.setIfInBounds_toArray, List.set_cons_zero, List.set_cons_succ]
      refine wpAnyH_take (i := 1) (v := ?_) (by simp only [List.getElem?_toArray, List.getElem?_cons_succ, List.getElem?_cons_zero]; rfl) (by kernel_rfl) (by kernel_rfl) (by kernel_rfl) (fun _ _ _ h => h) (Or.inl ⟨by rfl, ?_⟩) (by assumption) ?_
      rotate_left 1
      · (intro w hSw; (try dsimp only at hSw); go_simp; try with_reducible rfl)
      try simp only [Act.put, List.setIfInBounds_toArray, List.set_cons_zero, List.set_cons_succ]
      refine wpAnyH_take (i := 2) (v := ?_) (by simp only [List.getElem?_toArray, List.getElem?_cons_succ, List.getElem?_cons_zero]; rfl) (by kernel_rfl) (by kernel_rfl) (by kernel_rfl) (fun _ _ _ h => h) (Or.inl ⟨by rfl, ?_⟩) (by assumption) ?_
      rotate_left 1
      · (intro w hSw; (try dsimp only at hSw); go_simp; try with_reducible rfl)
      try simp only [Act.put, List.setIfInBounds_toArray, List.set_cons_zero, List.set_cons_succ]
      refine wpAnyH_take (i := 3) (v := ?_) (by simp only [List.getElem?_toArray, List.getElem?_cons_succ, List.getElem?_cons_zero]; rfl) (by kernel_rfl) (by kernel_rfl) (by kernel_rfl) (fun _ _ _ h => h) (Or.inl ⟨by rfl, ?_⟩) (by assumption) ?_
      rotate_left 1
      · (intro w hSw; (try dsimp only at hSw); go_simp; try with_reducible rfl)
      try simp only [Act.put, List.setIfInBounds_toArray, List.set_cons_zero, List.set_cons_succ]
      refine wpAnyH_take (i := 4) (v := ?_) (by simp only [List.getElem?_toArray, List.getElem?_cons_succ, List.getElem?_cons_zero]; rfl) (by kernel_rfl) (by kernel_rfl) (by kernel_rfl) (fun _ _ _ h => h) (Or.inl ⟨by rfl, ?_⟩) (by assumption) ?_
      rotate_left 1
      · (intro w hSw; (try dsimp only at hSw); go_simp; try with_reducible rfl)
      try simp only [Act.put, List.setIfInBounds_toArray, List.set_cons_zero, List.set_cons_succ]
      refine wpAnyH_take (i := 5) (v := ?_) (by simp only [List.getElem?_toArray, List.getElem?_cons_succ, List.getElem?_cons_zero]; rfl) (by kernel_rfl) (by kernel_rfl) (by kernel_rfl) (fun _ _ _ h => h) (Or.inl ⟨by rfl, ?_⟩) (by assumption) ?_
      rotate_left 1
      · (intro w hSw; (try dsimp only at hSw); go_simp; try with_reducible rfl)
      try simp only [Act.put, List.setIfInBounds_toArray, List.set_cons_zero, List.set_cons_succ]
      refine wpAnyH_take (i := 6) (v := ?_) (by simp only [List.getElem?_toArray, List.getElem?_cons_succ, List.getElem?_cons_zero]; rfl) (by kernel_rfl) (by kernel_rfl) (by kernel_rfl) (fun _ _ _ h => h) (Or.inl ⟨by rfl, ?_⟩) (by assumption) ?_
      rotate_left 1
      · (intro w hSw; (try dsimp only at hSw); go_simp; try with_reducible rfl)
      try simp only [Act.put, List.setIfInBounds_toArray, List.set_cons_zero, List.set_cons_succ]
      refine wpAnyH_take (i := 7) (v := ?_) (by simp only [List.getElem?_toArray, List.getElem?_cons_succ, List.getElem?_cons_zero]; rfl) (by kernel_rfl) (by kernel_rfl) (by kernel_rfl) (fun _ _ _ h => h) (Or.inl ⟨by rfl, ?_⟩) (by assumption) ?_
      rotate_left 1
      · (intro w hSw; (try dsimp only at hSw); go_simp; try with_reducible rfl)
      try simp only [Act.put, List.setIfInBounds_toArray, List.set_cons_zero, List.set_cons_succ]
      refine wpAnyH_take (i := 8) (v := ?_) (by simp only [List.getElem?_toArray, List.getElem?_cons_succ, List.getElem?_cons_zero]; rfl) (by kernel_rfl) (by kernel_rfl) (by kernel_rfl) (fun _ _ _ h => h) (Or.inl ⟨by rfl, ?_⟩) (by assumption) ?_
      rotate_left 1
      · (intro w hSw; (try dsimp only at hSw); go_simp; try with_reducible rfl)
      try simp only [Act.put, List.setIfInBounds_toArray, List.set_cons_zero, List.set_cons_succ]
      refine wpAnyH_take (i := 9) (v := ?_) (by simp only [List.getElem?_toArray, List.getElem?_cons_succ, List.getElem?_cons_zero]; rfl) (by kernel_rfl) (by kernel_rfl) (by kernel_rfl) (fun _ _ _ h => h) (Or.inl ⟨by rfl, ?_⟩) (by assumption) ?_
      rotate_left 1
      · (intro w hSw; (try dsimp only at hSw); go_simp; try with_reducible rfl)
      try simp only [Act.put, List.setIfInBounds_toArray, List.set_cons_zero, List.set_cons_succ]
      refine wpAnyH_take (i := 10) (v := ?_) (by simp only [List.getElem?_toArray, List.getElem?_cons_succ, List.getElem?_cons_zero]; rfl) (by kernel_rfl) (by kernel_rfl) (by kernel_rfl) (fun _ _ _ h => h) (Or.inl ⟨by rfl, ?_⟩) (by assumption) ?_
      rotate_left 1
      · (intro w hSw; (try dsimp only at hSw); go_simp; try with_reducible rfl)
      try simp only [Act.put, List.setIfInBounds_toArray, List.set_cons_zero, List.set_cons_succ]
      refine wpAnyH_take (i := 11) (v := ?_) (by simp only [List.getElem?_toArray, List.getElem?_cons_succ, List.getElem?_cons_zero]; rfl) (by kernel_rfl) (by kernel_rfl) (by kernel_rfl) (fun _ _ _ h => h) (Or.inl ⟨by rfl, ?_⟩) (by assumption) ?_
      rotate_left 1
      · (intro w hSw; (try dsimp only at hSw); go_simp; try with_reducible rfl)
      try simp only [Act.put, List.setIfInBounds_toArray, List.set_cons_zero, List.set_cons_succ]
      refine wpAnyH_take (i := 12) (v := ?_) (by simp only [List.getElem?_toArray, List.getElem?_cons_succ, List.getElem?_cons_zero]; rfl) (by kernel_rfl) (by kernel_rfl) (by kernel_rfl) (fun _ _ _ h => h) (Or.inl ⟨by rfl, ?_⟩) (by assumption) ?_
      rotate_left 1
      · (intro w hSw; (try dsimp only at hSw); go_simp; try with_reducible rfl)
      try simp only [Act.put, List.setIfInBounds_toArray, List.set_cons_zero, List.set_cons_succ]
      refine wpAnyH_take (i := 13) (v := ?_) (by simp only [List.getElem?_toArray, List.getElem?_cons_succ, List.getElem?_cons_zero]; rfl) (by kernel_rfl) (by kernel_rfl) (by kernel_rfl) (fun _ _ _ h => h) (Or.inl ⟨by rfl, ?_⟩) (by assumption) ?_
      rotate_left 1
      · (intro w hSw; (try dsimp only at hSw); go_simp; try with_reducible rfl)
      try simp only [Act.put, List.setIfInBounds_toArray, List.set_cons_zero, List.set_cons_succ]
      refine wpAnyH_take (i := 14) (v := ?_) (by simp only [List.getElem?_toArray, List.getElem?_cons_succ, List.getElem?_cons_zero]; rfl) (by kernel_rfl) (by kernel_rfl) (by kernel_rfl) (fun _ _ _ h => h) (Or.inl ⟨by rfl, ?_⟩) (by assumption) ?_
      rotate_left 1
      · (intro w hSw; (try dsimp only at hSw); go_simp; try with_reducible rfl)
      try simp only [Act.put, List.setIfInBounds_toArray, List.set_cons_zero, List.set_cons_succ]
      refine wpAnyH_ready (rs := [15]) (by kernel_rfl) (by simp) ?_
      refine AllReadyH.cons (by simp only [List.getElem?_toArray, List.getElem?_cons_succ, List.getElem?_cons_zero]; rfl) (fun K hK => ?_) ?_
      rotate_left 1
      · exact AllReadyH.nil
      go_simp
      refine hK.out _ _ ?_ (fun hHeld2 => ?_)
      · ((try dsimp only) <;> (first | trivial | assumption | go_keep))
      clear hHeld
      have hHeld := hHeld2
      clear hHeld2 hK K
      try simp only [Act.put, List.setIfInBounds_toArray, List.set_cons_zero, List.set_cons_succ]
      refine wpAnyH_done (by kernel_rfl) ?_ _
      refine NoPanic.normal ?_
      go_wp2_with fail
      go_roundw
      case rel =>
        refine ⟨j + 1, by omega, by go_num, P1.out.drew, ?_, ?_, P4.out.drew⟩
        · obtain ⟨z0, z1, z2, z3, hz⟩ := P2.out
          exact ⟨z0, z1, z2, z3, hz.drew⟩
        · rw [hst.out]
          rw [show strC ((putQ (D.queue.take j) D.sure).set x.1 x.2) = (strC (putQ (D.queue.take j) D.sure)).set x.1 (.string (txt x.2)) by simp [strC, List.map_set]]
          exact P3.out
      case measure => simp [intOf]; omega
    · have hjn : j = D.queue.length := by omega
      have hall : D.queue.take j = D.queue := List.take_of_length_le (by omega)
      rw [hall] at G3
      obtain ⟨c0, c1, c2, c3, f0, f1, f2, f3⟩ := blk4 G1.out
      obtain ⟨z0, z1, z2, z3, hz⟩ := G2.out
      obtain ⟨d0, d1, d2, d3, e0, e1, e2, e3⟩ := blk4 hz
      clear hall hjn hz
      go_wp2_with fail
      refine bodyPost_ret (v := .tuple #[.agg #[.slice A3 D.sure.length cA, .slice none 0 0, .int .i64 st, .int .i64 lf], .int .i64 0]) (by simp [results, Tryd.results56, go_sem, d0, d1, d2, d3]) rfl ?_
      have hbel := bel4 (G4.out.setCell (p := ⟨w.heap.size, 1, none⟩) (Nat.le_refl _) (.slice none 0 0)) (Nat.le_succ w.heap.size) (.slice A3 D.sure.length cA) (.slice none 0 0) (.int .i64 st) (.int .i64 lf)
      have hk : Kp [w.heap.size, w.heap.size + 1] wr _ := ((((((Kp.refl _ wr).set (p := ⟨w.heap.size, 1, none⟩) (.inl (by simp)) (.slice none 0 0)).set (p := ⟨w.heap.size + 1, 0, none⟩) (.inl (by simp)) (.slice A3 D.sure.length cA)).set (p := ⟨w.heap.size + 1, 1, none⟩) (.inl (by simp)) (.slice none 0 0)).set (p := ⟨w.heap.size + 1, 2, none⟩) (.inl (by simp)) (.int .i64 st)).set (p := ⟨w.heap.size + 1, 3, none⟩) (.inl (by simp)) (.int .i64 lf))
      have hlen : D.barred.sure.length = D.sure.length := putQ_len _ _
      refine ⟨A3, cA, ?_, ⟨?_, World.ownsRow_nil _ _ _ _, hok.out⟩, hbel, fun g hg => ?_⟩
      · rw [hlen, show (D.barred.steps : Int) = st from hst.out, show D.barred.left = lf from hlf.out]
        rfl
      · rw [hlen]
        exact own_base65 (own_kp G3.out hk (fun g hg => by
          have := Ha2.out g hg
          simp; omega)) hbs
      · have := Ha2.out g (by rw [← hg]; exact ob _ _ _)
        omega
end Go.Proofs.YtlobkefacnedeaaDoor

/- The walk over the reference's New. -/
namespace Go.Proofs.YtlobkefacnedeaaDoor
open Go.RowKit
set_option maxRecDepth 100000

/-- No disk. -/
def zeroD : Dsk := ⟨[], [], 0, 0, 0, #[]⟩
theorem rnew_no (n : Int) (w : World) (h : ¬ (1 ≤ n ∧ n ≤ 4096)) :
    Calls Tryd.prog 45 #[.int .i64 n] w fun e w' => e = .returned (.tuple #[.agg (refV none 0 none 0 zeroD), .int .i64 22]) ∧ Below w.heap.size w w' := by
  by_cases h1 : n < 1
  · go_enter Tryd.func45, Tryd.ntmps45
    go_wp2_with fail
    exact bodyPost_ret (v := .tuple #[.agg #[.slice none 0 0, .slice none 0 0, .int .i64 0, .int .i64 0], .int .i64 22]) (by simp [results, Tryd.results45, go_sem]) rfl ⟨rfl, (Below.refl _ _).alloc (Nat.le_refl _) _⟩
  · have h2 : 4096 < n := by omega
    clear h
    go_enter Tryd.func45, Tryd.ntmps45
    go_wp2_with fail
    exact bodyPost_ret (v := .tuple #[.agg #[.slice none 0 0, .slice none 0 0, .int .i64 0, .int .i64 0], .int .i64 22]) (by simp [results, Tryd.results45, go_sem]) rfl ⟨rfl, (Below.refl _ _).alloc (Nat.le_refl _) _⟩

theorem fresh_ok (n : Nat) (h : n ≤ 4096) : (freshD n).Ok := by
  refine ⟨fun x hx => ?_, (fun x hx => by cases hx), ?_, ⟨Int.le_refl _, (by show (-1 : Int) ≤ 9223372036854775807; decide)⟩, Nat.zero_le _, Nat.zero_le _⟩
  · rw [(List.mem_replicate.1 hx).2]; unfold zero64; rw [List.length_replicate]
  · show (List.replicate n zero64).length ≤ 4096; rw [List.length_replicate]; exact h

set_option maxHeartbeats 1000000 in
theorem rnew_yes (n : Nat) (w : World) (h1 : 1 ≤ n) (h2 : n ≤ 4096) :
    Calls Tryd.prog 45 #[.int .i64 (n : Int)] w fun e w' => ∃ As cs, e = .returned (.tuple #[.agg (refV As cs none 0 (freshD n)), .int .i64 0]) ∧ RefM w' w.heap.size As cs none 0 (freshD n) ∧ Below w.heap.size w w' := by
  obtain ⟨zl, hzl⟩ : ∃ zl, zl = zero64 := ⟨_, rfl⟩
  have km := mk_64
  simp only [← hzl] at km
  have hz64 : Hid (zl.length = 64) := hide (by rw [hzl]; unfold zero64; rw [List.length_replicate])
  replace hzl := hide hzl
  obtain ⟨cv, hcv⟩ := cv_ex Tryd.prog 26 9
  go_enter Tryd.func45, Tryd.ntmps45
  go_wp2_with fail
  go_loopw [5] (fun x wr => ∃ (j : Nat) (A : Option Addr) (c : Nat), j ≤ n ∧ x = .int .i64 (j : Int) ∧ Blk wr (w.heap.size + 1) 51 #[.slice A j c, .slice none 0 0, .int .i64 0, .int .i64 (-1)] ∧ (∃ z0 z1 z2 z3, Blk wr w.heap.size 51 #[z0, z1, z2, z3]) ∧
    wr.ownsRow w.heap.size 9 1 (.slice A j c) j (strC (List.replicate j zl)) ∧ (∀ g, (Value.slice A 0 0).ownBlock = some g → w.heap.size + 2 ≤ g) ∧ Below w.heap.size w wr) (fun x _ => n - (intOf x).toNat)
  case atStart =>
    refine ⟨0, none, 0, Nat.zero_le _, rfl, ?_, ⟨_, _, _, _, (Blk.new w _ _).alloc _⟩, World.ownsRow_nil _ _ _ _, (fun g hg => by cases hg), ((Below.refl _ _).alloc (Nat.le_refl _) _).alloc (by simp) _⟩
    have := Blk.new (w.alloc (.cells #[.slice none 0 0, .slice none 0 0, .int .i64 0, .int .i64 0] 51)) 51 #[.slice none 0 0, .slice none 0 0, .int .i64 0, .int .i64 (-1)]
    rwa [World.size_alloc] at this
  case round =>
    obtain ⟨j, A, c, hj, rfl, g1, g2, g3, g4, g5⟩ := hrel
    have G1 := hide g1
    have G2 := hide g2
    have G3 := hide g3
    have G4 := hide g4
    have G5 := hide g5
    clear g1 g2 g3 g4 g5
    by_cases hlt : j < n
    · have cz := G1.out.cell 0
      have S0 : wr.cell? ⟨w.heap.size + 1, 0, none⟩ = some (.slice A j c) := cz
      have S1 : (wr.alloc (.cells (u8s zl).toArray 5)).cell? ⟨w.heap.size + 1, 0, none⟩ = some (.slice A j c) := (G1.out.alloc _).cell 0
      have S2 : ((wr.alloc (.cells (u8s zl).toArray 5)).alloc (.cells #[.string (txt zl)] 9)).cell? ⟨w.heap.size + 1, 0, none⟩ = some (.slice A j c) := ((G1.out.alloc _).alloc _).cell 0
      have e1 := cvt' hcv (w := (wr.alloc (.cells (u8s zl).toArray 5)).drew) 64 (by_blk (Blk.new wr _ _).drew hz64.out)
      have hW1 := hide (((G1.out.drew.alloc (.cells (u8s zl).toArray 5)).alloc (.cells #[.string (txt zl)] 9)))
      have hW2 : Hid (∃ z0 z1 z2 z3, Blk ((wr.drew.alloc (.cells (u8s zl).toArray 5)).alloc (.cells #[.string (txt zl)] 9)) w.heap.size 51 #[z0, z1, z2, z3]) := by
        obtain ⟨z0, z1, z2, z3, hz⟩ := G2.out
        exact hide ⟨z0, z1, z2, z3, (hz.drew.alloc _).alloc _⟩
      have hWb := hide ((G5.out.drew.alloc G5.out.size (.cells (u8s zl).toArray 5)).alloc (Nat.le_trans G5.out.size (by simp)) (.cells #[.string (txt zl)] 9))
      have hWo := hide (own_kp G3.out (Kp.of_below (gs := []) (((Below.refl wr.heap.size wr).drew.alloc (Nat.le_refl _) (.cells (u8s zl).toArray 5)).alloc (by simp) (.cells #[.string (txt zl)] 9))) (by simp))
      have hNB : Hid (Blk ((wr.drew.alloc (.cells (u8s zl).toArray 5)).alloc (.cells #[.string (txt zl)] 9)) (wr.heap.size + 1) 9 #[.string (txt zl)]) := by
        have := Blk.new (wr.drew.alloc (.cells (u8s zl).toArray 5)) 9 #[.string (txt zl)]
        rwa [World.size_alloc] at this
      clear cz
      go_wp2_with fail
      go_region_law (
        (obtain ⟨ie, hie, z1, z2, z3⟩ := str_info
         refine step_append_lies _ (by rfl) _ _ _ (by rfl) w.heap.size 9 ie _ 1 16 Tryd.underlying43 hie z1 z2 z3 rfl (by decide) (.slice A j c) j _ (by rfl) hWo.out ⟨wr.heap.size + 1, 0, none⟩ 1 1 [.string (txt zl)] (by rfl) rfl (World.news_of_block hNB.out) (by intro u hu; simp at hu; rw [hu]; rfl) (by decide) (by simp only [maxLen]; omega) (by omega) (Nat.le_trans hWb.out.size (Nat.le_refl _)) _ rfl ?_
         intro g4 c4 w4 hown4 hg4 hat4 hlt4
         have M1 := hide (blk_grown hW1.out hg4 (fun e => by have := G4.out (w.heap.size + 1) ((ob A j c).symm.trans e.symm); omega))
         have M2 : Hid (∃ z0 z1 z2 z3, Blk w4 w.heap.size 51 #[z0, z1, z2, z3]) := (by
           obtain ⟨z0, z1, z2, z3, hz⟩ := hW2.out
           exact hide ⟨z0, z1, z2, z3, blk_grown hz hg4 (fun e => by have := G4.out w.heap.size ((ob A j c).symm.trans e.symm); omega)⟩)
         have Mb := hide (bel_grow hWb.out hg4 (fun k hk => by have := G4.out k ((ob A j c).symm.trans hk); omega) hWb.out.size)
         have Mo := hide hown4
         have Mg : Hid (w.heap.size + 2 ≤ g4) := hide (by
           rcases hat4 with h | h
           · exact G4.out _ ((ob A j c).symm.trans h)
           · rw [h]; simp; have := G1.out.lt; omega)
         have m0 := M1.out.cell 0
         have m1 := M1.out.frozen 0
         clear hown4 hg4 hat4 hlt4))
      all_goals
        clear S0 S1 S2 e1 m0 m1
        go_wp2_with fail
        go_roundw
        case rel =>
          refine ⟨j + 1, some ⟨g4, 0, none⟩, c4, by omega, by go_num, M1.out.set 0 _, ?_, ?_, (fun g hg => ?_), Mb.out.setCell (p := ⟨w.heap.size + 1, 0, none⟩) (Nat.le_succ _) _⟩
          · obtain ⟨z0, z1, z2, z3, hz⟩ := M2.out
            exact ⟨z0, z1, z2, z3, hz.far (p := ⟨w.heap.size + 1, 0, none⟩) (show w.heap.size ≠ w.heap.size + 1 by omega) _⟩
          · have := own_kp Mo.out ((Kp.refl [w.heap.size + 1] w4).set (p := ⟨w.heap.size + 1, 0, none⟩) (.inl (by simp)) (.slice (some ⟨g4, 0, none⟩) (j + 1) c4)) (fun g hg => by
              simp only [Value.ownBlock, Option.some.injEq] at hg
              have := Mg.out
              simp; omega)
            rw [show strC (List.replicate (j + 1) zl) = strC (List.replicate j zl) ++ [.string (txt zl)] by rw [List.replicate_succ']; simp [strC]]
            exact this
          · simp only [Value.ownBlock, Option.some.injEq] at hg
            have := Mg.out
            omega
        case measure => simp [intOf]; omega
    · have hjn : j = n := by omega
      obtain ⟨c0, c1, c2, c3, f0, f1, f2, f3⟩ := blk4 G1.out
      obtain ⟨z0, z1, z2, z3, hz⟩ := G2.out
      obtain ⟨d0, d1, d2, d3, e0, e1, e2, e3⟩ := blk4 hz
      have Hjn := hide hjn
      clear hjn hz
      go_wp2_with fail
      refine bodyPost_ret (v := .tuple #[.agg #[.slice A j c, .slice none 0 0, .int .i64 0, .int .i64 (-1)], .int .i64 0]) (by simp [results, Tryd.results45, go_sem, d0, d1, d2, d3]) rfl ?_
      have hbel := bel4 G5.out (Nat.le_refl w.heap.size) (.slice A j c) (.slice none 0 0) (.int .i64 0) (.int .i64 (-1))
      have hk : Kp [w.heap.size] wr _ := (((((Kp.refl _ wr).set (p := ⟨w.heap.size, 0, none⟩) (.inl (by simp)) (.slice A j c)).set (p := ⟨w.heap.size, 1, none⟩) (.inl (by simp)) (.slice none 0 0)).set (p := ⟨w.heap.size, 2, none⟩) (.inl (by simp)) (.int .i64 0)).set (p := ⟨w.heap.size, 3, none⟩) (.inl (by simp)) (.int .i64 (-1)))
      have hlen : (freshD n).sure.length = n := by simp [freshD]
      refine ⟨A, c, ?_, ⟨?_, World.ownsRow_nil _ _ _ _, fresh_ok n h2⟩, hbel⟩
      · unfold refV
        rw [hlen, Hjn.out]
        rfl
      · rw [hlen]
        have := own_kp G3.out hk (fun g hg => by
          have := G4.out g ((ob A j c).symm.trans hg)
          simp; omega)
        rw [hzl.out] at this
        have e := Hjn.out
        subst e
        exact this
end Go.Proofs.YtlobkefacnedeaaDoor

/- The reference's disk: Put, Barrier as one answer; boxes of the call's own beside it. (Out of XPtRefD, XPtRefA.) -/
namespace Go.Proofs.YtlobkefacnedeaaDoor
open Go.RowKit
set_option maxRecDepth 100000
attribute [local go_sem ↓] Go.wp_at_zero Go.wp_at_succ

/-- The reference's disk behind a call. -/
structure RefN (base : Nat) (w w' : World) (As Aq As' : Option Addr) (cs' : Nat) (Aq' : Option Addr) (cq' : Nat) (E : Dsk) : Prop where
  rm : RefM w' base As' cs' Aq' cq' E
  bel : Below w.heap.size w w'
  fs : ∀ g, (Value.slice As' 0 0).ownBlock = some g → w.heap.size ≤ g ∨ (Value.slice As 0 0).ownBlock = some g
  fq : ∀ g, (Value.slice Aq' 0 0).ownBlock = some g → w.heap.size ≤ g ∨ (Value.slice Aq 0 0).ownBlock = some g
def RefAns (base : Nat) (w : World) (As Aq : Option Addr) (r : Int × Dsk) (e : Ending) (w' : World) : Prop :=
  ∃ As' cs' Aq' cq', e = .returned (.tuple #[.agg (refV As' cs' Aq' cq' r.2), .int .i64 r.1]) ∧ RefN base w w' As Aq As' cs' Aq' cq' r.2
section
variable {base : Nat} {w w1 w2 : World} {As Aq As' Aq' As2 Aq2 : Option Addr} {cs cq cs' cq' cs2 cq2 : Nat} {D E F : Dsk}
theorem RefN.refl (h : RefM w base As cs Aq cq D) : RefN base w w As Aq As cs Aq cq D := ⟨h, Below.refl _ _, fun _ h => .inr h, fun _ h => .inr h⟩
theorem RefN.of (h : RefM w base As cs Aq cq D) (hb : Below w.heap.size w w1) : RefN base w w1 As Aq As cs Aq cq D := ⟨h.below hb, hb, fun _ h => .inr h, fun _ h => .inr h⟩
theorem RefN.trans (h : RefN base w w1 As Aq As' cs' Aq' cq' E) (k : RefN base w1 w2 As' Aq' As2 cs2 Aq2 cq2 F) : RefN base w w2 As Aq As2 cs2 Aq2 cq2 F :=
  ⟨k.rm, h.bel.trans (k.bel.mono h.bel.size), fun g hg => (k.fs g hg).elim (fun e => .inl (Nat.le_trans h.bel.size e)) (h.fs g), fun g hg => (k.fq g hg).elim (fun e => .inl (Nat.le_trans h.bel.size e)) (h.fq g)⟩
theorem RefN.more (h : RefN base w w1 As Aq As' cs' Aq' cq' E) (hb : Below w1.heap.size w1 w2) : RefN base w w2 As Aq As' cs' Aq' cq' E := h.trans (RefN.of h.rm hb)
end
theorem rput_ans (base : Nat) (As : Option Addr) (cs : Nat) (Aq : Option Addr) (cq : Nat) (D : Dsk) (i : Nat) (b : List UInt8) (w : World) (h : RefM w base As cs Aq cq D) (hbs : base ≤ w.heap.size) (hi : i < D.sure.length) (hb : b.length = 64) (hs : D.steps < 1000000) (hq : D.queue.length < 1000000) :
    Calls Tryd.prog 78 #[.agg (refV As cs Aq cq D), .int .i64 (i : Int), .string (txt b)] w (RefAns base w As Aq (if D.left = 0 then (102, D) else (0, D.wrote i b))) := by
  by_cases hl : D.left = 0
  · rw [if_pos hl]
    refine (rput_dead As cs Aq cq D i b w hi hb hl h.ok.n).mono ?_
    rintro e w' ⟨rfl, h1⟩
    exact ⟨As, cs, Aq, cq, rfl, RefN.of h h1⟩
  · rw [if_neg hl]
    refine (rput_ok base As cs Aq cq D i b w h hbs hi hb hl hs hq).mono ?_
    rintro e w' ⟨A', c', rfl, h1, h2, h3⟩
    exact ⟨As, cs, A', c', rfl, h1, h2, fun _ h => .inr h, fun g hg => .inl (h3 g hg)⟩
theorem rbar_ans (base : Nat) (As : Option Addr) (cs : Nat) (Aq : Option Addr) (cq : Nat) (D : Dsk) (w : World) (h : RefM w base As cs Aq cq D) (hbs : base ≤ w.heap.size) (hs : D.steps < 1000000) :
    Calls Tryd.prog 56 #[.agg (refV As cs Aq cq D)] w (RefAns base w As Aq (barS D)) := by
  unfold barS
  by_cases hl : D.left = 0
  · rw [if_pos hl]
    refine (rbar_dead As cs Aq cq D w hl).mono ?_
    rintro e w' ⟨rfl, h1⟩
    exact ⟨As, cs, Aq, cq, rfl, RefN.of h h1⟩
  · rw [if_neg hl]
    refine (rbar_ok base As cs Aq cq D w h hbs hl hs).mono ?_
    rintro e w' ⟨A', c', rfl, h1, h2, h3⟩
    exact ⟨A', c', none, 0, rfl, h1, h2, fun g hg => .inl (h3 g hg), fun g hg => by cases hg⟩
/-- The reference's disk while two boxes of the call's own are written. -/
structure RS (base : Nat) (w w' : World) (As Aq As' : Option Addr) (cs' : Nat) (Aq' : Option Addr) (cq' : Nat) (E : Dsk) (g1 g2 : Nat) : Prop where
  n : RefN base w w' As Aq As' cs' Aq' cq' E
  ns : ∀ k, (Value.slice As' 0 0).ownBlock = some k → k ≠ g1 ∧ k ≠ g2
  nq : ∀ k, (Value.slice Aq' 0 0).ownBlock = some k → k ≠ g1 ∧ k ≠ g2
  l : g1 < w'.heap.size ∧ g2 < w'.heap.size
  g : w.heap.size ≤ g1 ∧ w.heap.size ≤ g2
section
variable {base g1 g2 : Nat} {w w1 w2 : World} {As Aq As' Aq' As2 Aq2 : Option Addr} {cs cq cs' cq' cs2 cq2 : Nat} {D E F : Dsk}
theorem RS.start (h : RefM w base As cs Aq cq D) (hb : Below w.heap.size w w1) (h1 : w.heap.size ≤ g1 ∧ g1 < w1.heap.size) (h2 : w.heap.size ≤ g2 ∧ g2 < w1.heap.size) : RS base w w1 As Aq As cs Aq cq D g1 g2 :=
  ⟨RefN.of h hb, fun k hk => by have := (h.sLt k hk).2; omega, fun k hk => by have := (h.qLt k hk).2; omega, ⟨h1.2, h2.2⟩, h1.1, h2.1⟩
theorem RS.call (r : RS base w w1 As Aq As' cs' Aq' cq' E g1 g2) (k : RefN base w1 w2 As' Aq' As2 cs2 Aq2 cq2 F) : RS base w w2 As Aq As2 cs2 Aq2 cq2 F g1 g2 :=
  ⟨r.n.trans k, fun b hb => (k.fs b hb).elim (fun e => by have := r.l; omega) (r.ns b), fun b hb => (k.fq b hb).elim (fun e => by have := r.l; omega) (r.nq b), ⟨Nat.lt_of_lt_of_le r.l.1 k.bel.size, Nat.lt_of_lt_of_le r.l.2 k.bel.size⟩, r.g⟩
theorem RS.below (r : RS base w w1 As Aq As' cs' Aq' cq' E g1 g2) (hb : Below w1.heap.size w1 w2) : RS base w w2 As Aq As' cs' Aq' cq' E g1 g2 := r.call (RefN.of r.n.rm hb)
theorem RS.set (r : RS base w w1 As Aq As' cs' Aq' cq' E g1 g2) {g : Nat} (hg : g = g1 ∨ g = g2) (i : Nat) (v : Value) : RS base w (w1.setCell ⟨g, i, none⟩ v) As Aq As' cs' Aq' cq' E g1 g2 := by
  have hge : w.heap.size ≤ g := hg.elim (fun e => e ▸ r.g.1) (fun e => e ▸ r.g.2)
  have hK : Kp [g] w1 (w1.setCell ⟨g, i, none⟩ v) := (Kp.refl [g] w1).set (p := ⟨g, i, none⟩) (.inl (by simp)) v
  refine ⟨⟨r.n.rm.kp hK (fun k hk => ?_) (fun k hk => ?_), r.n.bel.setCell (p := ⟨g, i, none⟩) hge v, r.n.fs, r.n.fq⟩, r.ns, r.nq, by simpa [World.setCell] using r.l, r.g⟩
  · have := r.ns k hk
    simp only [List.mem_singleton]
    rcases hg with rfl | rfl
    · exact this.1
    · exact this.2
  · have := r.nq k hk
    simp only [List.mem_singleton]
    rcases hg with rfl | rfl
    · exact this.1
    · exact this.2
theorem RS.set4 (r : RS base w w1 As Aq As' cs' Aq' cq' E g1 g2) {g : Nat} (hg : g = g1 ∨ g = g2) (y0 y1 y2 y3 : Value) :
    RS base w ((((w1.setCell ⟨g, 0, none⟩ y0).setCell ⟨g, 1, none⟩ y1).setCell ⟨g, 2, none⟩ y2).setCell ⟨g, 3, none⟩ y3) As Aq As' cs' Aq' cq' E g1 g2 := (((r.set hg 0 y0).set hg 1 y1).set hg 2 y2).set hg 3 y3
theorem RS.to (r : RS base w w1 As Aq As' cs' Aq' cq' E g1 g2) (e1 : F.sure = E.sure) (e2 : F.queue = E.queue) (ok : F.Ok) : RS base w w1 As Aq As' cs' Aq' cq' F g1 g2 :=
  ⟨⟨r.n.rm.to e1 e2 ok, r.n.bel, r.n.fs, r.n.fq⟩, r.ns, r.nq, r.l, r.g⟩
end
theorem set4b {w : World} {g : Nat} {t : TypeId} {x0 x1 x2 x3 : Value} (h : Blk w g t #[x0, x1, x2, x3]) (y0 y1 y2 y3 : Value) :
    Blk ((((w.setCell ⟨g, 0, none⟩ y0).setCell ⟨g, 1, none⟩ y1).setCell ⟨g, 2, none⟩ y2).setCell ⟨g, 3, none⟩ y3) g t #[y0, y1, y2, y3] := (((h.set 0 y0).set 1 y1).set 2 y2).set 3 y3
theorem far4D {w : World} {g g' : Nat} {t : TypeId} {cs : Array Value} (h : Blk w g t cs) (hn : g ≠ g') (y0 y1 y2 y3 : Value) :
    Blk ((((w.setCell ⟨g', 0, none⟩ y0).setCell ⟨g', 1, none⟩ y1).setCell ⟨g', 2, none⟩ y2).setCell ⟨g', 3, none⟩ y3) g t cs :=
  (((h.far (p := ⟨g', 0, none⟩) hn y0).far (p := ⟨g', 1, none⟩) hn y1).far (p := ⟨g', 2, none⟩) hn y2).far (p := ⟨g', 3, none⟩) hn y3
theorem cell4 {w : World} {g : Nat} {t : TypeId} {x0 x1 x2 x3 : Value} (h : Blk w g t #[x0, x1, x2, x3]) : w.cell? ⟨g, 0, none⟩ = some x0 ∧ w.cell? ⟨g, 1, none⟩ = some x1 ∧ w.cell? ⟨g, 2, none⟩ = some x2 ∧ w.cell? ⟨g, 3, none⟩ = some x3 ∧
    w.frozen? ⟨g, 0, none⟩ = false ∧ w.frozen? ⟨g, 1, none⟩ = false ∧ w.frozen? ⟨g, 2, none⟩ = false ∧ w.frozen? ⟨g, 3, none⟩ = false := ⟨h.cell 0, h.cell 1, h.cell 2, h.cell 3, h.frozen 0, h.frozen 1, h.frozen 2, h.frozen 3⟩
theorem ret_da {K : Ending → World → Prop} {fn : Func} {p q : Tmp} {a : Act} {w : World} {g : Nat} {x0 x1 x2 x3 v : Value} (hr : fn.results = #[.cell p 51, .tmp q]) (hd : a.defers = []) (hp : a.tmps.getD p undef = .pointer (some ⟨g, 0, none⟩)) (hq : a.tmps.getD q undef = v) (hB : Blk w g 51 #[x0, x1, x2, x3])
    (hK : K (.returned (.tuple #[.agg #[x0, x1, x2, x3], v])) w) : bodyPost Tryd.prog fn K .ret a w := by
  have hp' : a.tmps[p]?.getD undef = .pointer (some ⟨g, 0, none⟩) := by simpa using hp
  have hq' : a.tmps[q]?.getD undef = v := by simpa using hq
  refine bodyPost_ret (v := .tuple #[.agg #[x0, x1, x2, x3], v]) ?_ hd hK
  simp [results, hr, hp', hq', asAddr, run_loadVar_row w g 51 51 #[x0, x1, x2, x3] (0, 0) _ hB Tryd.underlying51 rfl (by kernel_rfl)]
/-- Four cells stored into a box of a disk. -/
theorem set4x {w : World} {g : Nat} {t : TypeId} {x0 x1 x2 x3 : Value} (h : Blk w g t #[x0, x1, x2, x3]) (y0 y1 y2 y3 : Value) :
    ∃ W, (((w.setCell ⟨g, 0, none⟩ y0).setCell ⟨g, 1, none⟩ y1).setCell ⟨g, 2, none⟩ y2).setCell ⟨g, 3, none⟩ y3 = W ∧ Blk W g t #[y0, y1, y2, y3] ∧ (∀ g' t' cs, Blk w g' t' cs → g' ≠ g → Blk W g' t' cs) ∧
      (∀ (base : Nat) (v : World) (As Aq As' : Option Addr) (cs' : Nat) (Aq' : Option Addr) (cq' : Nat) (E : Dsk) (g1 g2 : Nat), (g = g1 ∨ g = g2) → RS base v w As Aq As' cs' Aq' cq' E g1 g2 → RS base v W As Aq As' cs' Aq' cq' E g1 g2) ∧ Kp [g] w W :=
  ⟨_, rfl, set4b h _ _ _ _, fun g' t' cs hB hn => far4D hB hn _ _ _ _, fun base v As Aq As' cs' Aq' cq' E g1 g2 hg r => r.set4 hg _ _ _ _, by
    have hm : ∀ i : Nat, (⟨g, i, none⟩ : Addr).block ∈ [g] ∨ w.heap.size ≤ (⟨g, i, none⟩ : Addr).block := fun i => .inl (List.mem_singleton.2 rfl)
    exact ((((Kp.refl [g] w).set (hm 0) y0).set (hm 1) y1).set (hm 2) y2).set (hm 3) y3⟩
theorem refV_cells (As : Option Addr) (cs : Nat) (Aq : Option Addr) (cq : Nat) (D : Dsk) : refV As cs Aq cq D = #[.slice As D.sure.length cs, .slice Aq D.queue.length cq, .int .i64 (D.steps : Int), .int .i64 D.left] := rfl
end Go.Proofs.YtlobkefacnedeaaDoor

/- The walks over marlref15.put, Clear. -/
namespace Go.Proofs.YtlobkefacnedeaaDoor
open Go.RowKit
set_option maxRecDepth 100000
attribute [local go_sem ↓] Go.wp_at_zero Go.wp_at_succ

def zeroDC : Array Value := #[.slice none 0 0, .slice none 0 0, .int .i64 0, .int .i64 0]
set_option maxHeartbeats 4000000 in
theorem rput15 (base : Nat) (As : Option Addr) (cs : Nat) (Aq : Option Addr) (cq : Nat) (D : Dsk) (a : Nat) (A : Option Addr) (m c B : Nat) (bs : List (List UInt8)) (w : World) (h : RefM w base As cs Aq cq D) (hbs : base ≤ w.heap.size) (hA : Sl w B A m (strC bs)) (hB : B ≤ w.heap.size) (h64 : ∀ b ∈ bs, b.length = 64) (hr : a + m ≤ D.sure.length) (hs : D.steps + m ≤ 900000) (hq : D.queue.length + m ≤ 900000) :
    Calls Tryd.prog 53 #[.agg (refV As cs Aq cq D), .int .i64 (a : Int), .slice A m c] w (RefAns base w As Aq (putS D a bs)) := by
  have HA := hide (hA.more hB)
  have HL := hide (show bs.length = m by have := hA.len; rwa [strC_len] at this)
  have H64 := hide h64
  have HBS := hide hbs
  have HN := h.ok.n
  have hm4 : a + m ≤ 4096 := by omega
  have HSQ := hide (And.intro hs hq)
  have HR := hide hr
  obtain ⟨w1, hw⟩ : ∃ W, W = (w.alloc (.cells (refV As cs Aq cq D) 51)).alloc (.cells zeroDC 51) := ⟨_, rfl⟩
  have K3 : Hid (Blk w1 w.heap.size 51 (refV As cs Aq cq D)) := hide (by rw [hw]; exact (Blk.new _ _ _).alloc _)
  have K6 : Hid (Blk w1 (w.heap.size + 1) 51 zeroDC) := hide (by
    rw [hw]
    have := Blk.new (w.alloc (.cells (refV As cs Aq cq D) 51)) 51 zeroDC
    simpa using this)
  have ba : Below w.heap.size w w1 := by rw [hw]; exact ((Below.refl _ _).alloc (Nat.le_refl _) _).alloc (by simp) _
  have RS1 := hide (RS.start (g1 := w.heap.size) (g2 := w.heap.size + 1) h ba ⟨Nat.le_refl _, K3.out.lt⟩ ⟨by omega, K6.out.lt⟩)
  clear h hA hB h64 hbs hs hq hr ba HN
  obtain ⟨R, hR⟩ : ∃ R, R = putS D a bs := ⟨_, rfl⟩
  have HP := hide hR
  rw [← hR]
  clear hR
  unfold refV zeroDC at hw
  unfold refV at K3
  unfold zeroDC at K6
  unfold refV
  go_enter Tryd.func53, Tryd.ntmps53
  go_upto_region 1 with fail
  rw [← hw]
  obtain ⟨g3, hg3⟩ : ∃ g, g = w.heap.size := ⟨_, rfl⟩
  rw [← hg3] at K3 K6 RS1 ⊢
  obtain ⟨g6, hg6⟩ : ∃ g, g = g3 + 1 := ⟨_, rfl⟩
  rw [← hg6] at K6 RS1 ⊢
  have G := hide (show g3 ≠ g6 by omega)
  clear hw hg3 hg6
  go_wp2_with fail
  go_loopw [8, 12] (fun x y wr => ∃ (j : Nat) (E : Dsk) (As' : Option Addr) (cs' : Nat) (Aq' : Option Addr) (cq' : Nat), j ≤ m ∧ x = .int .i64 0 ∧ y = .int .i64 (j : Int) ∧ R = putS E (a + j) (bs.drop j) ∧ RS base w wr As Aq As' cs' Aq' cq' E g3 g6 ∧ Blk wr g3 51 #[.slice As' E.sure.length cs', .slice Aq' E.queue.length cq', .int .i64 (E.steps : Int), .int .i64 E.left] ∧ Blk wr g6 51 #[.slice none 0 0, .slice none 0 0, .int .i64 0, .int .i64 0] ∧ E.steps ≤ D.steps + j ∧ E.queue.length ≤ D.queue.length + j ∧ E.sure.length = D.sure.length) (fun _ y _ => m - (intOf y).toNat)
  case atStart => exact ⟨0, D, As, cs, Aq, cq, Nat.zero_le _, rfl, rfl, HP.out, RS1.out, K3.out, K6.out, Nat.le_refl _, Nat.le_refl _, rfl⟩
  case round =>
    clear RS1 K3 K6 HP
    obtain ⟨j, E, As', cs', Aq', cq', hj, rfl, rfl, hE, hrs, hk3, hk6, hE1, hE2, hE3⟩ := hrel
    have HE := hide hE
    have RN := hide hrs
    have K3 := hide hk3
    have K6 := hide hk6
    have HF := hide (And.intro hE1 (And.intro hE2 hE3))
    clear hE hrs hk3 hk6 hE1 hE2 hE3
    by_cases hlt : j < m
    rotate_left
    · have hjs : ¬ (j : Int) < (m : Int) := by omega
      have HP2 := hide (show R = (0, E) by rw [HE.out, List.drop_of_length_le (by rw [HL.out]; omega)]; rfl)
      obtain ⟨c0, c1, c2, c3, -⟩ := cell4 K3.out
      obtain ⟨d0, d1, d2, d3, f0, f1, f2, f3⟩ := cell4 K6.out
      go_wp2_with fail
      exact ret_da rfl rfl rfl rfl (set4b K6.out _ _ _ _) (by rw [HP2.out]; exact ⟨As', cs', Aq', cq', rfl, (RN.out.set4 (.inr rfl) _ _ _ _).n⟩)
    have hjs : (j : Int) < (m : Int) := by omega
    obtain ⟨ad, b, rfl, hx, hcl⟩ := sl_str (HA.out.below RN.out.n.bel) hlt
    have HX := hide hx
    have HDR := hide (drop_at hx)
    have HB64 := hide (H64.out b (List.mem_of_getElem? hx))
    clear hx
    obtain ⟨p, hp⟩ : ∃ p, p = a + j := ⟨_, rfl⟩
    have HPJ := hide hp
    have hpw : IntKind.i64.wrap ((a : Int) + (j : Int)) = (p : Int) := by rw [IntKind.wrap_i64]; omega
    clear hp
    go_upto_region 5 with fail
    refine wp_region_noPanic ?_
    refine wp_region_held_drew (S := (fun w' => w'.cell? (ad.add j) = some (.string (txt b)))) (by kernel_rfl) ?_ (fun hHeld => ?_)
    · ((try dsimp only) <;> (first | trivial | assumption | go_keep))
    clear hcl
    replace RN := hide (RN.out.below (Below.refl _ _).drew)
    replace K3 := hide K3.out.drew
    replace K6 := hide K6.out.drew
    generalize wr.drew = w2 at *
    refine wpAnyH_take (i := 1) (v := ?_) (by simp only [List.getElem?_toArray, List.getElem?_cons_succ, List.getElem?_cons_zero]; rfl) (by kernel_rfl) (by kernel_rfl) (by kernel_rfl) (fun _ _ _ h => h) (Or.inl ⟨by rfl, ?_⟩) (by assumption) ?_
    rotate_left 1
    · (intro w hSw; (try dsimp only at hSw); go_simp; try with_reducible rfl)
    try simp only [Act.put, List.setIfInBounds_toArray, List.set_cons_zero, List.set_cons_succ]
    refine wpAnyH_take (i := 2) (v := ?_) (by simp only [List.getElem?_toArray, List.getElem?_cons_succ, List.getElem?_cons_zero]; rfl) (by kernel_rfl) (by kernel_rfl) (by kernel_rfl) (fun _ _ _ h => h) (Or.inl ⟨by rfl, ?_⟩) (by assumption) ?_
    rotate_left 1
    · (intro w hSw; (try dsimp only at hSw); go_simp; try with_reducible rfl)
    try simp only [Act.put, List.setIfInBounds_toArray, List.set_cons_zero, List.set_cons_succ]
    refine wpAnyH_take (i := 3) (v := ?_) (by simp only [List.getElem?_toArray, List.getElem?_cons_succ, List.getElem?_cons_zero]; rfl) (by kernel_rfl) (by kernel_rfl) (by kernel_rfl) (fun _ _ _ h => h) (Or.inl ⟨by rfl, ?_⟩) (by assumption) ?_
    rotate_left 1
    · (intro w hSw; (try dsimp only at hSw); go_simp; try with_reducible rfl)
    try simp only [Act.put, List.setIfInBounds_toArray, List.set_cons_zero, List.set_cons_succ]
    refine wpAnyH_take (i := 4) (v := ?_) (by simp only [List.getElem?_toArray, List.getElem?_cons_succ, List.getElem?_cons_zero]; rfl) (by kernel_rfl) (by kernel_rfl) (by kernel_rfl) (fun _ _ _ h => h) (Or.inl ⟨by rfl, ?_⟩) (by assumption) ?_
    rotate_left 1
    · (intro w hSw; (try dsimp only at hSw); go_simp; try with_reducible rfl)
    try simp only [Act.put, List.setIfInBounds_toArray, List.set_cons_zero, List.set_cons_succ]
    refine wpAnyH_take (i := 5) (v := ?_) (by simp only [List.getElem?_toArray, List.getElem?_cons_succ, List.getElem?_cons_zero]; rfl) (by kernel_rfl) (by kernel_rfl) (by kernel_rfl) (fun _ _ _ h => h) (Or.inl ⟨by rfl, ?_⟩) (by assumption) ?_
    rotate_left 1
    · (intro w hSw; (try dsimp only at hSw); go_simp; try with_reducible rfl)
    try simp only [Act.put, List.setIfInBounds_toArray, List.set_cons_zero, List.set_cons_succ]
    refine wpAnyH_take (i := 6) (v := ?_) (by simp only [List.getElem?_toArray, List.getElem?_cons_succ, List.getElem?_cons_zero]; rfl) (by kernel_rfl) (by kernel_rfl) (by kernel_rfl) (fun _ _ _ h => h) (Or.inl ⟨by rfl, ?_⟩) (by assumption) ?_
    rotate_left 1
    · (intro w hSw; (try dsimp only at hSw); go_simp; try with_reducible rfl)
    try simp only [Act.put, List.setIfInBounds_toArray, List.set_cons_zero, List.set_cons_succ]
    refine wpAnyH_take (i := 7) (v := ?_) (by simp only [List.getElem?_toArray, List.getElem?_cons_succ, List.getElem?_cons_zero]; rfl) (by kernel_rfl) (by kernel_rfl) (by kernel_rfl) (fun _ _ _ h => h) (Or.inl ⟨by rfl, ?_⟩) (by assumption) ?_
    rotate_left 1
    · (intro w hSw; (try dsimp only at hSw); go_simp; try with_reducible rfl)
    try simp only [Act.put, List.setIfInBounds_toArray, List.set_cons_zero, List.set_cons_succ]
    obtain ⟨c0, c1, c2, c3, -⟩ := cell4 K3.out
    refine wpAnyH_ready (rs := [0]) (by kernel_rfl) (by simp) ?_
    refine AllReadyH.cons (by simp only [List.getElem?_toArray, List.getElem?_cons_succ, List.getElem?_cons_zero]; rfl) (fun K hK => ?_) ?_
    rotate_left 1
    · exact AllReadyH.nil
    go_simp
    refine hK.out _ _ ?_ (fun hHeld2 => ?_)
    · ((try dsimp only) <;> (first | trivial | assumption | go_keep))
    clear hHeld
    have hHeld := hHeld2
    clear hHeld2 hK K
    try simp only [Act.put, List.setIfInBounds_toArray, List.set_cons_zero, List.set_cons_succ]
    clear c0 c1 c2 c3
    have C2 := rput_ans base As' cs' Aq' cq' E p b w2 RN.out.n.rm (Nat.le_trans HBS.out RN.out.n.bel.size) (by have := HF.out; have := HR.out; have := HPJ.out; omega) HB64.out (by have := HF.out; have := HSQ.out; omega) (by have := HF.out; have := HSQ.out; omega)
    obtain ⟨F, hF⟩ : ∃ F : Int × Dsk, F = if E.left = 0 then (102, E) else (0, E.wrote p b) := ⟨_, rfl⟩
    rw [← hF] at C2
    have HFF := hide hF
    clear hF
    unfold refV at C2
    refine wpAnyH_ready (rs := [8]) (by kernel_rfl) (by simp) ?_
    refine AllReadyH.cons (by simp only [List.getElem?_toArray, List.getElem?_cons_succ, List.getElem?_cons_zero]; rfl) (fun K hK => ?_) ?_
    rotate_left 1
    · exact AllReadyH.nil
    go_simp
    refine C2.mono ?_; rintro r w3 ⟨As2, cs2, Aq2, cq2, rfl, k2⟩; replace K3 := hide (K3.out.below k2.bel); replace K6 := hide (K6.out.below k2.bel); have RN2 := hide (RN.out.call k2); have hcl : w3.cell? (ad.add j) = some (.string (txt b)) := by { obtain ⟨ad', b', h1, h2, h3⟩ := sl_str (HA.out.below RN2.out.n.bel) hlt; have e1 : b = b' := by { have := HX.out; rw [h2] at this; exact (Option.some.inj this).symm }; have e2 : ad = ad' := Option.some.inj h1; rw [e1, e2]; exact h3 }; clear C2 k2; unfold refV
    refine hK.out _ _ ?_ (fun hHeld2 => ?_)
    · ((try dsimp only) <;> (first | trivial | assumption | go_keep))
    clear hHeld
    have hHeld := hHeld2
    clear hHeld2 hK K
    try simp only [Act.put, List.setIfInBounds_toArray, List.set_cons_zero, List.set_cons_succ]
    clear hHeld RN
    have hHeld := hcl
    clear hcl
    refine wpAnyH_take (i := 9) (v := ?_) (by simp only [List.getElem?_toArray, List.getElem?_cons_succ, List.getElem?_cons_zero]; rfl) (by kernel_rfl) (by kernel_rfl) (by kernel_rfl) (fun _ _ _ h => h) (Or.inl ⟨by rfl, ?_⟩) (by assumption) ?_
    rotate_left 1
    · (intro w hSw; (try dsimp only at hSw); go_simp; try with_reducible rfl)
    try simp only [Act.put, List.setIfInBounds_toArray, List.set_cons_zero, List.set_cons_succ]
    refine wpAnyH_take (i := 10) (v := ?_) (by simp only [List.getElem?_toArray, List.getElem?_cons_succ, List.getElem?_cons_zero]; rfl) (by kernel_rfl) (by kernel_rfl) (by kernel_rfl) (fun _ _ _ h => h) (Or.inl ⟨by rfl, ?_⟩) (by assumption) ?_
    rotate_left 1
    · (intro w hSw; (try dsimp only at hSw); go_simp; try with_reducible rfl)
    try simp only [Act.put, List.setIfInBounds_toArray, List.set_cons_zero, List.set_cons_succ]
    refine wpAnyH_take (i := 11) (v := ?_) (by simp only [List.getElem?_toArray, List.getElem?_cons_succ, List.getElem?_cons_zero]; rfl) (by kernel_rfl) (by kernel_rfl) (by kernel_rfl) (fun _ _ _ h => h) (Or.inl ⟨by rfl, ?_⟩) (by assumption) ?_
    rotate_left 1
    · (intro w hSw; (try dsimp only at hSw); go_simp; try with_reducible rfl)
    try simp only [Act.put, List.setIfInBounds_toArray, List.set_cons_zero, List.set_cons_succ]
    obtain ⟨c0, c1, c2, c3, f0, f1, f2, f3⟩ := cell4 K3.out
    refine wpAnyH_ready (rs := [12]) (by kernel_rfl) (by simp) ?_
    refine AllReadyH.cons (by simp only [List.getElem?_toArray, List.getElem?_cons_succ, List.getElem?_cons_zero]; rfl) (fun K hK => ?_) ?_
    rotate_left 1
    · exact AllReadyH.nil
    go_simp
    obtain ⟨W, eW, S1, S2, S3, S4⟩ := set4x K3.out (.slice As2 F.2.sure.length cs2) (.slice Aq2 F.2.queue.length cq2) (.int .i64 (F.2.steps : Int)) (.int .i64 F.2.left); have RN3 := hide (S3 _ _ _ _ _ _ _ _ _ _ _ (.inl rfl) RN2.out); replace K6 := hide (S2 _ _ _ K6.out G.out.symm); replace K3 := hide S1; have hcl : W.cell? (ad.add j) = some (.string (txt b)) := by { obtain ⟨ad', b', h1, h2, h3⟩ := sl_str (HA.out.below RN3.out.n.bel) hlt; have e1 : b = b' := by { have := HX.out; rw [h2] at this; exact (Option.some.inj this).symm }; have e2 : ad = ad' := Option.some.inj h1; rw [e1, e2]; exact h3 }; rw [eW]; clear eW S1 S2 S3 S4
    refine hK.out _ _ ?_ (fun hHeld2 => ?_)
    · ((try dsimp only) <;> (first | trivial | assumption | go_keep))
    clear hHeld
    have hHeld := hHeld2
    clear hHeld2 hK K
    try simp only [Act.put, List.setIfInBounds_toArray, List.set_cons_zero, List.set_cons_succ]
    clear c0 c1 c2 c3 f0 f1 f2 f3 hHeld
    have hHeld := hcl
    clear hcl RN2
    refine wpAnyH_take (i := 13) (v := ?_) (by simp only [List.getElem?_toArray, List.getElem?_cons_succ, List.getElem?_cons_zero]; rfl) (by kernel_rfl) (by kernel_rfl) (by kernel_rfl) (fun _ _ _ h => h) (Or.inl ⟨by rfl, ?_⟩) (by assumption) ?_
    rotate_left 1
    · (intro w hSw; (try dsimp only at hSw); go_simp; try with_reducible rfl)
    try simp only [Act.put, List.setIfInBounds_toArray, List.set_cons_zero, List.set_cons_succ]
    refine wpAnyH_done (by kernel_rfl) ?_ _
    refine NoPanic.normal ?_
    clear hHeld
    by_cases hleft : E.left = 0
    · have HFE := hide (show F = (102, E) by rw [HFF.out, if_pos hleft])
      have HP2 := hide (show R = (102, E) by rw [HE.out, HDR.out, putS_dead hleft])
      clear hleft
      obtain ⟨q, E2⟩ := F
      obtain ⟨rfl, rfl⟩ : q = 102 ∧ E2 = E := by have := HFE.out; simpa using this
      dsimp only at *
      obtain ⟨c0, c1, c2, c3, -⟩ := cell4 K3.out
      obtain ⟨d0, d1, d2, d3, f0, f1, f2, f3⟩ := cell4 K6.out
      go_wp2_with fail
      exact ret_da rfl rfl rfl rfl (set4b K6.out _ _ _ _) (by rw [HP2.out]; exact ⟨As2, cs2, Aq2, cq2, rfl, (RN3.out.set4 (.inr rfl) _ _ _ _).n⟩)
    · have HFE := hide (show F = (0, E.wrote p b) by rw [HFF.out, if_neg hleft])
      have HP2 := hide (show R = putS (E.wrote p b) (a + (j + 1)) (bs.drop (j + 1)) by rw [HE.out, HDR.out, putS_go hleft, ← HPJ.out]; congr 1; rw [HPJ.out]; omega)
      clear hleft
      obtain ⟨q, E2⟩ := F
      obtain ⟨rfl, e2⟩ : q = 0 ∧ E2 = E.wrote p b := by have := HFE.out; simpa using this
      have HE2 := hide e2
      clear e2 HFE HFF
      dsimp only at *
      go_wp2_with fail
      go_roundw
      case rel =>
        refine ⟨j + 1, E2, As2, cs2, Aq2, cq2, by omega, rfl, by go_num, by rw [HE2.out]; exact HP2.out, RN3.out, K3.out, K6.out, ?_, ?_, ?_⟩
        · rw [HE2.out]; have := HF.out.1; show E.steps + 1 ≤ _; omega
        · rw [HE2.out]; have := HF.out.2.1; show (E.queue ++ [_]).length ≤ _; simp; omega
        · rw [HE2.out]; exact HF.out.2.2
      case measure => simp [intOf]; omega
theorem zero_txt (w : World) : (convert 26 9 (.slice (some ⟨w.heap.size, 0, none⟩) 64 64)).run Tryd.prog (w.alloc (.cells (u8s zero64).toArray 5)) = .ok (.string (txt zero64)) (w.alloc (.cells (u8s zero64).toArray 5)) :=
  run_conv_txt (P := Tryd.prog) _ Tryd.underlying26 Tryd.underlying5 Tryd.underlying9 64 (by_blk (Blk.new w 5 (u8s zero64).toArray) rfl)
theorem sl_two {w : World} (x y : Value) (t : TypeId) : Sl (w.alloc (.cells #[x, y] t)) (w.heap.size + 1) (some ⟨w.heap.size, 0, none⟩) 2 [x, y] := sl_newS w [x, y] t
set_option maxHeartbeats 4000000 in
theorem rclr15 (base : Nat) (As : Option Addr) (cs : Nat) (Aq : Option Addr) (cq : Nat) (D : Dsk) (a : Int) (w : World) (h : RefM w base As cs Aq cq D) (hbs : base ≤ w.heap.size) (hs : D.steps ≤ 800000) (hq : D.queue.length ≤ 800000) :
    Calls Tryd.prog 54 #[.agg (refV As cs Aq cq D), .int .i64 a] w (RefAns base w As Aq (clrS D a)) := by
  have HBS := hide hbs
  have HSQ := hide (And.intro hs hq)
  obtain ⟨N, hN⟩ : ∃ N, N = D.sure.length := ⟨_, rfl⟩
  have HN := hide (show N = D.sure.length ∧ N ≤ 4096 from ⟨hN, by have := h.ok.n; omega⟩)
  have hN4 : N ≤ 4096 := HN.out.2
  have h64 : IntKind.i64.wrap ((N : Int) - 2) = (N : Int) - 2 := by rw [IntKind.wrap_i64]; omega
  obtain ⟨w1, hw⟩ : ∃ W, W = (w.alloc (.cells (refV As cs Aq cq D) 51)).alloc (.cells zeroDC 51) := ⟨_, rfl⟩
  have K3 : Hid (Blk w1 w.heap.size 51 (refV As cs Aq cq D)) := hide (by rw [hw]; exact (Blk.new _ _ _).alloc _)
  have K6 : Hid (Blk w1 (w.heap.size + 1) 51 zeroDC) := hide (by
    rw [hw]
    have := Blk.new (w.alloc (.cells (refV As cs Aq cq D) 51)) 51 zeroDC
    simpa using this)
  have ba : Below w.heap.size w w1 := by rw [hw]; exact ((Below.refl _ _).alloc (Nat.le_refl _) _).alloc (by simp) _
  have RN := hide (RS.start (g1 := w.heap.size) (g2 := w.heap.size + 1) h ba ⟨Nat.le_refl _, K3.out.lt⟩ ⟨by omega, K6.out.lt⟩)
  clear h hbs hs hq ba
  obtain ⟨R, hR⟩ : ∃ R, R = clrS D a := ⟨_, rfl⟩
  have HR := hide hR
  rw [← hR]
  clear hR
  unfold refV zeroDC at hw
  unfold refV at K3
  unfold zeroDC at K6
  unfold refV
  rw [← hN] at hw K3 ⊢
  clear hN
  go_enter Tryd.func54, Tryd.ntmps54
  go_upto_region 1 with fail
  rw [← hw]
  obtain ⟨g3, hg3⟩ : ∃ g, g = w.heap.size := ⟨_, rfl⟩
  rw [← hg3] at K3 K6 RN ⊢
  obtain ⟨g6, hg6⟩ : ∃ g, g = g3 + 1 := ⟨_, rfl⟩
  rw [← hg6] at K6 RN ⊢
  have G := hide (show g3 ≠ g6 by omega)
  clear hw hg3 hg6
  obtain ⟨c0, c1, c2, c3, -⟩ := cell4 K3.out
  by_cases h0 : a < 0 ∨ (N : Int) - 2 < a
  · have HP := hide (show R = (22, D) by rw [HR.out]; unfold clrS; rw [if_pos (by rw [← HN.out.1]; exact h0)])
    obtain ⟨d0, d1, d2, d3, f0, f1, f2, f3⟩ := cell4 K6.out
    rcases (show a < 0 ∨ (¬ a < 0 ∧ (N : Int) - 2 < a) by omega) with h1 | ⟨h1, h2⟩
    · clear h0
      go_wp2_with fail
      exact ret_da rfl rfl rfl rfl (set4b K6.out _ _ _ _) (by rw [HP.out, HN.out.1]; exact ⟨As, cs, Aq, cq, rfl, (RN.out.set4 (.inr rfl) _ _ _ _).n⟩)
    · clear h0
      go_wp2_with fail
      exact ret_da rfl rfl rfl rfl (set4b K6.out _ _ _ _) (by rw [HP.out, HN.out.1]; exact ⟨As, cs, Aq, cq, rfl, (RN.out.set4 (.inr rfl) _ _ _ _).n⟩)
  have HP := hide (show R = andS (putS D a.toNat [zero64, zero64]) barS by rw [HR.out]; unfold clrS; rw [if_neg (by rw [← HN.out.1]; exact h0)])
  have h1 : ¬ a < 0 := by omega
  have h2 : ¬ (N : Int) - 2 < a := by omega
  obtain ⟨k, rfl⟩ : ∃ k : Nat, a = (k : Int) := ⟨a.toNat, by omega⟩
  rw [Int.toNat_natCast] at HP
  have HK := hide (show k + 2 ≤ D.sure.length by rw [← HN.out.1]; omega)
  have hmk := mk_64s w1
  have hzt := zero_txt w1
  clear h0
  go_upto_region 4 with fail
  clear hmk hzt h1 h2
  obtain ⟨w2, hw2⟩ : ∃ W, W = w1.alloc (.cells (u8s zero64).toArray 5) := ⟨_, rfl⟩
  have b2 := (show Below w1.heap.size w1 w2 by rw [hw2]; exact (Below.refl _ _).alloc (Nat.le_refl _) _)
  rw [← hw2]
  replace RN := hide (RN.out.below b2)
  replace K3 := hide (K3.out.below b2)
  replace K6 := hide (K6.out.below b2)
  clear hw2 b2 c0 c1 c2 c3
  obtain ⟨c0, c1, c2, c3, f0, f1, f2, f3⟩ := cell4 K3.out
  have b3 := (Below.refl w2.heap.size w2).alloc (Nat.le_refl _) (.cells #[.string (txt zero64), .string (txt zero64)] 9)
  have C2 := rput15 base As cs Aq cq D k (some ⟨w2.heap.size, 0, none⟩) 2 2 _ [zero64, zero64] (w2.alloc (.cells #[.string (txt zero64), .string (txt zero64)] 9)) (RN.out.n.rm.below b3) (Nat.le_trans HBS.out (Nat.le_trans RN.out.n.bel.size b3.size)) (sl_two _ _ _) (by simp) (by intro b hb; simp only [List.mem_cons, List.not_mem_nil, or_false, or_self] at hb; subst hb; rfl) HK.out (by have := HSQ.out; omega) (by have := HSQ.out; omega)
  have B3 := hide b3
  obtain ⟨P, hP⟩ : ∃ P, P = putS D k [zero64, zero64] := ⟨_, rfl⟩
  have PB := hide (show P.2.steps ≤ D.steps + 2 by rw [hP]; exact (putS_bd _ _ _).1)
  rw [← hP] at C2 HP
  unfold refV at C2
  rw [← HN.out.1] at C2
  have C2 := hide C2
  clear hP b3
  go_wp2_with fail
  clear c0 c1 c2 c3 f0 f1 f2 f3
  refine C2.out.mono ?_
  rintro r w3 ⟨As2, cs2, Aq2, cq2, rfl, k2⟩
  have RN2 := hide ((RN.out.below B3.out).call k2)
  replace K3 := hide ((K3.out.below B3.out).below k2.bel)
  replace K6 := hide ((K6.out.below B3.out).below k2.bel)
  clear C2 k2 B3 RN
  obtain ⟨pc, E⟩ := P
  dsimp only at PB RN2
  unfold refV
  obtain ⟨c0, c1, c2, c3, f0, f1, f2, f3⟩ := cell4 K3.out
  go_upto_region 5 with fail
  obtain ⟨W, eW, S1, S2, S3, S4⟩ := set4x K3.out (.slice As2 E.sure.length cs2) (.slice Aq2 E.queue.length cq2) (.int .i64 (E.steps : Int)) (.int .i64 E.left)
  have RN3 := hide (S3 _ _ _ _ _ _ _ _ _ _ _ (.inl rfl) RN2.out)
  replace K6 := hide (S2 _ _ _ K6.out G.out.symm)
  replace K3 := hide S1
  rw [eW]
  clear c0 c1 c2 c3 f0 f1 f2 f3 eW S1 S2 S3 S4 RN2
  obtain ⟨c0, c1, c2, c3, -⟩ := cell4 K3.out
  by_cases hpc : pc = 0
  rotate_left
  · have hpn : (pc != 0) = true := bne_iff_ne.2 hpc
    replace HP := hide (show R = (pc, E) by rw [HP.out]; unfold andS; rw [if_neg hpc])
    obtain ⟨d0, d1, d2, d3, f0, f1, f2, f3⟩ := cell4 K6.out
    clear hpc
    go_wp2_with fail
    exact ret_da rfl rfl rfl rfl (set4b K6.out _ _ _ _) (by rw [HP.out]; exact ⟨As2, cs2, Aq2, cq2, rfl, (RN3.out.set4 (.inr rfl) _ _ _ _).n⟩)
  subst hpc
  replace HP := hide (show R = barS E from HP.out)
  have C3 := rbar_ans base As2 cs2 Aq2 cq2 E W RN3.out.n.rm (Nat.le_trans HBS.out RN3.out.n.bel.size) (by have := HSQ.out; have := PB.out; omega)
  rw [← HP.out] at C3
  unfold refV at C3
  have C3 := hide C3
  go_wp2_with fail
  clear c0 c1 c2 c3
  refine C3.out.mono ?_
  rintro r w4 ⟨As3, cs3, Aq3, cq3, rfl, k3⟩
  have RN4 := hide (RN3.out.call k3)
  replace K6 := hide (K6.out.below k3.bel)
  clear C3 k3 RN3 K3
  unfold refV
  obtain ⟨d0, d1, d2, d3, f0, f1, f2, f3⟩ := cell4 K6.out
  go_wp2_with fail
  exact ret_da rfl rfl rfl rfl (set4b K6.out _ _ _ _) ⟨As3, cs3, Aq3, cq3, rfl, (RN4.out.set4 (.inr rfl) _ _ _ _).n⟩
end Go.Proofs.YtlobkefacnedeaaDoor

/- The walks over marlref01: Step, Sum. -/
namespace Go.Proofs.YtlobkefacnedeaaDoor
open Go.RowKit
set_option maxRecDepth 100000

theorem bit1_0 (c : Nat) (h : c % 2 = 0) : bit1 c = c / 2 := by unfold bit1; rw [h]; simp
theorem bit1_1 (c : Nat) (h : c % 2 = 1) : bit1 c = (c / 2) ^^^ 3988292384 := by unfold bit1; rw [h]

set_option maxHeartbeats 400000 in
theorem step_any (c b : Nat) (hc : c < 4294967296) (hb : b < 256) (w : World) :
    Calls Tryd.prog 88 #[.int .u32 c, .int .u8 b] w fun e w' => e = .returned (.int .u32 (bitN 8 (c ^^^ b) : Nat)) ∧ w = w' := by
  have hx := u32_xor_lt c b hc (by omega)
  have hxe := hide (u32_xor_nat c b hc (by omega))
  go_enter Tryd.func88, Tryd.ntmps88
  go_wp2
  rw [hxe.out]
  generalize hxy : c ^^^ b = x at *
  have Hxy := hide hxy
  clear hxy
  go_loop [0, 5] (fun c' i => ∃ k : Nat, k ≤ 8 ∧ i = .int .i64 k ∧ c' = .int .u32 (bitN k x : Nat)) (fun _ i => 8 - (intOf i).toNat)
  case atStart => exact ⟨0, by omega, rfl, rfl⟩
  case round =>
    obtain ⟨k, hk, rfl, rfl⟩ := hrel
    have hr := bitN_lt k x hx
    have hsn := hide (bitN_succ k x)
    generalize hre : bitN k x = r at *
    have Hre := hide hre
    clear hre
    by_cases hlt : k < 8
    · have h2 : r % 2 = 0 ∨ r % 2 = 1 := by omega
      rcases h2 with h0 | h1
      · have hbit := hide (bit1_0 r h0)
        have ht : (((r : Int) % 2 == 1) = false) := by rw [beq_eq_false_iff_ne]; omega
        clear h0
        go_wp2
        go_round
        case rel => exact ⟨k + 1, by omega, by go_num, by rw [hsn.out, hbit.out]; go_num⟩
        case measure => simp [intOf]; omega
      · have hbit := hide (bit1_1 r h1)
        have ht : (((r : Int) % 2 == 1) = true) := by rw [beq_iff_eq]; omega
        have hxx := hide (u32_xor_nat (r / 2) 3988292384 (by omega) (by omega))
        clear h1
        go_wp2
        go_round
        case rel => exact ⟨k + 1, by omega, by go_num, by rw [hsn.out, hbit.out, ← hxx.out]; go_num⟩
        case measure => simp [intOf]; omega
    · go_wp2
      go_ret
      exact ⟨ret_u32 (by rw [← Hre.out, show k = 8 by omega, Hxy.out]), rfl⟩

set_option maxHeartbeats 400000 in
theorem rsum_any (A : Option Addr) (n cap B : Nat) (l : List UInt8) (w : World) (h : By w B A n l) (hn : n ≤ 9223372036854775807) :
    Calls Tryd.prog 75 #[.slice A n cap] w fun e w' => e = .returned (.int .u32 (crc l : Nat)) ∧ w = w' := by
  have H := hide h
  clear h
  go_enter Tryd.func75, Tryd.ntmps75
  go_wp2
  go_loop [3, 4] (fun c' i => ∃ k : Nat, k ≤ n ∧ i = .int .i64 k ∧ c' = .int .u32 (crcRun 4294967295 (l.take k) : Nat)) (fun _ i => n - (intOf i).toNat)
  case atStart => exact ⟨0, by omega, rfl, rfl⟩
  case round =>
    obtain ⟨k, hk, rfl, rfl⟩ := hrel
    have hcr := crcRun_lt 4294967295 (l.take k) (by omega)
    by_cases hlt : k < n
    · obtain ⟨hl, ad, rfl, hcell⟩ := By.get H.out hlt
      have hsn := hide (crcRun_snoc 4294967295 l k hl)
      generalize crcRun 4294967295 (l.take k) = r at *
      have hsb := hide (show crcByte r l[k] = bitN 8 (r ^^^ l[k].toNat) from rfl)
      have hb := l[k].toNat_lt
      generalize l[k].toNat = b at *
      replace hb : b < 256 := hb
      go_wp2_with fail
      refine (step_any r b hcr hb _).mono ?_
      rintro e w' ⟨rfl, rfl⟩
      go_wp2_with fail
      go_round
      case rel => exact ⟨k + 1, by omega, by go_num, by rw [hsn.out, hsb.out]⟩
      case measure => simp [intOf]; omega
    · have hl := By.length H.out
      have hfin := hide (show crcRun 4294967295 (l.take k) ^^^ 4294967295 = crc l by
        rw [List.take_of_length_le (by omega)]; rfl)
      have hxx := hide (u32_xor_nat _ 4294967295 hcr (by omega))
      clear hl
      go_wp2
      go_ret
      exact ⟨by rw [← hfin.out, ← hxx.out]; rfl, rfl⟩
end Go.Proofs.YtlobkefacnedeaaDoor

/- The walk of marlref15.Sum. -/
namespace Go.Proofs.YtlobkefacnedeaaDoor
open Go.RowKit
set_option maxRecDepth 100000
attribute [local go_sem ↓] Go.wp_at_zero Go.wp_at_succ

theorem strCells_txt (l : List UInt8) : Lib.strCells (txt l) = u8s l := by simp [Lib.strCells, txt, u8s]
theorem txt_len (l : List UInt8) : (txt l).size = l.length := by simp [txt, ByteArray.size]
theorem u8_info : ∃ ie, Tryd.prog.info? 5 = some ie ∧ ie.zero = some (.int .u8 0) ∧ ie.size = 1 ∧ ie.bytes = 1 :=
  info_parts (show (Tryd.prog.info? 5).map (fun i => (i.zero, i.size, i.bytes)) = some (some (.int .u8 0), 1, 1) by kernel_rfl)
def lenB (bs : List (List UInt8)) : Nat := (bs.map List.length).sum
theorem lenB_take {bs : List (List UInt8)} (h : ∀ b ∈ bs, b.length ≤ 64) : ∀ j, j ≤ bs.length → (bs.take j).flatten.length ≤ 64 * j
  | 0, _ => by simp
  | j + 1, hj => by
    have ih := lenB_take h j (by omega)
    have hb := h (bs[j]'(by omega)) (List.getElem_mem _)
    rw [List.take_succ_eq_append_getElem (by omega), List.flatten_append, List.length_append]
    simp only [List.flatten_cons, List.flatten_nil, List.append_nil]
    omega
set_option maxHeartbeats 2000000 in
theorem rsum15 (w : World) (A : Option Addr) (m c B : Nat) (bs : List (List UInt8)) (h : Sl w B A m (strC bs)) (hB : B ≤ w.heap.size) (h64 : ∀ b ∈ bs, b.length ≤ 64) (hm : m ≤ 100000) :
    Calls Tryd.prog 51 #[.slice A m c] w fun r w' => r = .returned (.int .u32 (crc bs.flatten : Nat)) ∧ Below w.heap.size w w' := by
  have H := hide (h.more hB)
  have HL := hide (show bs.length = m by have := h.len; rwa [strC_len] at this)
  have H64 := hide h64
  clear h hB h64
  go_enter Tryd.func51, Tryd.ntmps51
  go_wp2_with fail
  go_loopw [3, 7] (fun x y wr => ∃ (j : Nat) (A' : Option Addr) (n' c' : Nat), j ≤ m ∧ x = .slice A' n' c' ∧ y = .int .i64 (j : Int) ∧ n' = (bs.take j).flatten.length ∧ OwnBy wr w.heap.size A' n' c' (bs.take j).flatten ∧ Below w.heap.size w wr) (fun _ y _ => m - (intOf y).toNat)
  case atStart => exact ⟨0, none, 0, 0, Nat.zero_le _, rfl, rfl, rfl, World.ownsRow_nil _ _ _ _, Below.refl _ _⟩
  case round =>
    obtain ⟨j, A', n', c', hj, rfl, rfl, hn, ho, hb⟩ := hrel
    have O := hide ho
    have BW := hide hb
    have HN := hide (show n' = (bs.take j).flatten.length ∧ n' ≤ 64 * j from ⟨hn, by rw [hn]; exact lenB_take H64.out j (by rw [HL.out]; exact hj)⟩)
    clear ho hb hn
    by_cases hlt : j < m
    · have hjs : (j : Int) < (m : Int) := by omega
      obtain ⟨ad, b, rfl, hx, hc⟩ := sl_str (H.out.below BW.out) hlt
      have HB := hide (H64.out b (List.mem_of_getElem? hx))
      have HT := hide (show (bs.take (j + 1)).flatten = (bs.take j).flatten ++ b by rw [List.take_add_one, hx, List.flatten_append]; simp)
      clear hx
      obtain ⟨ie, hie, z1, z2, z3⟩ := u8_info
      have HI := hide (And.intro hie (And.intro z1 (And.intro z2 z3)))
      clear hie z1 z2 z3
      go_wp2_with (
        at_builtin
        refine Lib.wpList_append_own_string (P := Tryd.prog) _ rfl (.tmp 10) (.tmp 14) _ _ rfl w.heap.size 5 ie Tryd.underlying26 Tryd.underlying9 HI.out.1 HI.out.2.1 HI.out.2.2.1 HI.out.2.2.2 (.slice A' n' c') n' (u8s (bs.take j).flatten) rfl O.out (txt b) rfl (by have := HN.out; have := HB.out; rw [txt_len]; simp only [maxLen]; omega) (by have := HN.out; have := HB.out; rw [txt_len]; omega) BW.out.size ?_
        intro v' w3 ho hg _
        obtain ⟨A3, c3, rfl, -, -⟩ := own_form ho
        rw [strCells_txt, ← u8s_append, ← HT.out] at ho
        have O3 := hide ho
        have B3 := hide (BW.out.grown hg BW.out.size (fun g hg => (O.out.lt g hg).1))
        clear ho hg)
      rw [txt_len]
      go_roundw
      case rel => exact ⟨j + 1, A3, n' + b.length, c3, by omega, rfl, by go_num, by rw [HT.out, List.length_append, HN.out.1], by have := O3.out; rw [txt_len] at this; exact this, B3.out⟩
      case measure => simp [intOf]; omega
    · have hjs : ¬ (j : Int) < (m : Int) := by omega
      obtain rfl : j = m := by omega
      have HF := hide (show bs.take j = bs by exact List.take_of_length_le (by rw [HL.out]; exact Nat.le_refl _))
      rw [HF.out] at O HN
      have RS := hide (rsum_any A' n' c' _ bs.flatten wr (Sl.of_own O.out) (by have := HN.out; omega))
      go_wp2_with fail
      refine RS.out.mono ?_
      rintro r w4 ⟨rfl, rfl⟩
      go_wp2_with fail
      go_ret
      exact ⟨rfl, BW.out⟩
end Go.Proofs.YtlobkefacnedeaaDoor
