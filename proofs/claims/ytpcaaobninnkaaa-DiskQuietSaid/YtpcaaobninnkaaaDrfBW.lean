/- The walk over the reference's Barrier. -/
import Derived.Test.YtpcaaobninnkaaaDrfPW
namespace Go.Proofs.Ytpcaaobninnkaaa
open Go.RowKit
attribute [local go_sem ↓] Go.wp_at_zero Go.wp_at_succ

theorem rbar_dead (As : Option Addr) (cs : Nat) (Aq : Option Addr) (cq : Nat) (D : Dsk) (w : World) (hl : D.left = 0) :
    Calls Try.prog 27 #[.agg (refV As cs Aq cq D)] w fun e w' => e = .returned (.tuple #[.agg (refV As cs Aq cq D), .int .i64 102]) ∧ Below w.heap.size w w' := by
  have C := hide (fun w => rstep_dead As cs Aq cq D w hl)
  unfold refV at C ⊢
  clear hl
  go_enter Try.func27, Try.ntmps27
  go_wp2_with fail
  refine (C.out _).mono ?_
  rintro e w1 ⟨rfl, hb1⟩
  obtain ⟨K1, K2, hb, hs⟩ := two_boxes hb1
  obtain ⟨c0, c1, c2, c3, f0, f1, f2, f3⟩ := blk4 K1
  obtain ⟨d0, d1, d2, d3, e0, e1, e2, e3⟩ := blk4 K2
  have Hb := hide hb
  clear hb1 hb hs K1 K2
  go_wp2_with fail
  exact bodyPost_ret (v := .tuple #[.agg _, _]) (by simp [results, Try.results27, go_sem, d0, d1, d2, d3]) rfl ⟨rfl, bel4 (bel4 Hb.out (Nat.le_refl _) _ _ _ _) (Nat.le_succ _) _ _ _ _⟩

theorem own_set {w : World} {base n c k : Nat} {e : TypeId} {A : Option Addr} {xs : List Value} (h : w.ownsRow base e 1 (.slice A n c) n xs) (hk : k < n) :
    ∃ g u, A = some ⟨g, 0, none⟩ ∧ base ≤ g ∧ g < w.heap.size ∧ w.cell? ⟨g, k, none⟩ = some u ∧ w.frozen? ⟨g, k, none⟩ = false ∧ ∀ v, (w.setCell ⟨g, k, none⟩ v).ownsRow base e 1 (.slice A n c) n (xs.set k v) := by
  obtain ⟨ad, u, hA, h1, h2, -, h4, h5, h6⟩ := own_at h hk
  rcases h.2 with ⟨hv, _⟩ | ⟨g, cap, cur, hv, _⟩
  · rw [hA] at hv; injection hv with hv; cases hv
  · injection hv with hv
    rw [hA] at hv
    injection hv with hv
    subst hv
    rw [Addr.add_mid, Nat.zero_add] at h4 h5
    refine ⟨g, u, hA, h1, h2, h4, h5, fun v => ?_⟩
    have := h6 v
    rwa [Addr.add_mid, Nat.zero_add] at this
theorem Dsk.Ok.barred {D : Dsk} (h : D.Ok) (hs : D.steps < 1000000) : D.barred.Ok :=
  { h.stepped hs with b := putQ_64 _ _ (fun y hy => (h.q y hy).1) h.b, q := (fun y hy => by cases hy), n := (by rw [show D.barred.sure.length = D.sure.length from putQ_len _ _]; exact h.n), qn := Nat.zero_le _ }

set_option maxHeartbeats 1000000 in
theorem rbar_ok (base : Nat) (As : Option Addr) (cs : Nat) (Aq : Option Addr) (cq : Nat) (D : Dsk) (w : World) (h : RefM w base As cs Aq cq D) (hbs : base ≤ w.heap.size) (hl : D.left ≠ 0) (hs : D.steps < 1000000) :
    Calls Try.prog 27 #[.agg (refV As cs Aq cq D)] w fun e w' => ∃ A' c', e = .returned (.tuple #[.agg (refV A' c' none 0 D.barred), .int .i64 0]) ∧ RefM w' base A' c' none 0 D.barred ∧ Below w.heap.size w w' ∧ (∀ g, (Value.slice A' 0 0).ownBlock = some g → w.heap.size ≤ g) := by
  have hok := h.ok.barred hs
  have C := hide (fun w => rstep_ok As cs Aq cq D w hl h.ok hs)
  have hn := h.ok.n
  have hqn := h.ok.qn
  have hq := hide h.ok.q
  have H := hide h
  unfold refV at C ⊢
  have hs1 : D.stepped.sure.length = D.sure.length := rfl
  have hs2 : D.stepped.queue.length = D.queue.length := rfl
  rw [hs1, hs2] at C
  generalize hst : (D.stepped.steps : Int) = st at *
  generalize hlf : D.stepped.left = lf at *
  replace hst := hide hst
  replace hlf := hide hlf
  replace hok := hide hok
  clear hl h hs1 hs2
  go_enter Try.func27, Try.ntmps27
  go_wp2_with fail
  refine (C.out _).mono ?_
  rintro e w1 ⟨rfl, hb1⟩
  obtain ⟨K1, K2, hb, hs⟩ := two_boxes hb1
  have HK1 := hide K1
  have HK2 := hide K2
  obtain ⟨c0, c1, c2, c3, f0, f1, f2, f3⟩ := blk4 K1
  have Hb := hide hb
  clear hb1 hb hs K1 K2 C
  go_upto_region 4 with fail
  have J1 := hide (set4 HK1.out (.slice As D.sure.length cs) (.slice Aq D.queue.length cq) (.int .i64 st) (.int .i64 lf))
  have J2 := hide (far4 HK2.out (Nat.succ_ne_self _) (.slice As D.sure.length cs) (.slice Aq D.queue.length cq) (.int .i64 st) (.int .i64 lf))
  have Hb2 := hide (bel4 Hb.out (Nat.le_refl _) (.slice As D.sure.length cs) (.slice Aq D.queue.length cq) (.int .i64 st) (.int .i64 lf))
  clear c0 c1 c2 c3 f0 f1 f2 f3 HK1 HK2 Hb
  generalize (((w1.setCell ⟨w.heap.size, 0, none⟩ (.slice As D.sure.length cs)).setCell ⟨w.heap.size, 1, none⟩ (.slice Aq D.queue.length cq)).setCell ⟨w.heap.size, 2, none⟩ (.int .i64 st)).setCell ⟨w.heap.size, 3, none⟩ (.int .i64 lf) = w2 at *
  have c1 : (w2.alloc (.cells #[] 9)).cell? ⟨w.heap.size, 0, none⟩ = some (.slice As D.sure.length cs) := (J1.out.alloc _).cell 0
  have hs2 : Hid (w.heap.size + 2 ≤ w2.heap.size) := hide (by have := J2.out.lt; omega)
  go_wp2_with (
    at_builtin
    obtain ⟨ie, hie, z1, z2, z3⟩ := str_info
    refine wpList_appk _ rfl (.tmp 14) (.tmp 16) _ rfl Try.underlying48 hie z1 z2 z3 rfl (by decide) (by decide) w.heap.size (.slice (some ⟨w2.heap.size, 0, none⟩) 0 0) 0 [] rfl (own_made Hb2.out.size) base As D.sure.length cs (strC D.sure) rfl
      (own_kp (H.out.below Hb2.out).s (Kp.of_below (gs := []) ((Below.refl _ _).alloc (Nat.le_refl _) _)) (by simp)) (strC_one _) (by omega) (Nat.le_trans Hb2.out.size (by simp)) ?_
    intro A3 cA w3 hown3 hg3 hat3
    simp only [Nat.zero_add, List.nil_append] at hown3 hat3
    have L1 := hide (blk_grown (J1.out.alloc (.cells #[] 9)) hg3 (by simp [Value.ownBlock]; have := J1.out.lt; omega))
    have L2 := hide (blk_grown (J2.out.alloc (.cells #[] 9)) hg3 (by simp [Value.ownBlock]; have := J2.out.lt; omega))
    have Lb := hide (bel_grow (Hb2.out.alloc Hb2.out.size (.cells #[] 9)) hg3 (fun k hk => by simp only [Value.ownBlock, Option.some.injEq] at hk; have := hs2.out; omega) (Nat.le_trans Hb2.out.size (by simp)))
    have Ho := hide hown3
    have Ha := hide (show ∀ g, (Value.slice A3 D.sure.length cA).ownBlock = some g → w.heap.size + 2 ≤ g ∧ g < w3.heap.size from fun g hg => ⟨by
      have := hs2.out
      rcases hat3 with h | h
      · rw [hg] at h; simp [Value.ownBlock] at h; omega
      · rw [hg] at h; simp at h; omega, (hown3.lt g hg).2⟩)
    have hs3 : w.heap.size ≤ w3.heap.size := Lb.out.size
    clear hown3 hg3 hat3 J1 J2
    obtain ⟨c0, c1, c2, c3, f0, f1, f2, f3⟩ := blk4 L1.out)
  have N1 := hide (L1.out.set 0 (.slice A3 D.sure.length cA))
  have N2 : Hid (∃ z0 z1 z2 z3, Blk (w3.setCell ⟨w.heap.size, 0, none⟩ (.slice A3 D.sure.length cA)) (w.heap.size + 1) 51 #[z0, z1, z2, z3]) := hide ⟨_, _, _, _, L2.out.far (p := ⟨w.heap.size, 0, none⟩) (Nat.succ_ne_self _) _⟩
  have Nb := hide (Lb.out.setCell (p := ⟨w.heap.size, 0, none⟩) (Nat.le_refl _) (.slice A3 D.sure.length cA))
  have No := hide (own_kp Ho.out ((Kp.refl [w.heap.size] w3).set (p := ⟨w.heap.size, 0, none⟩) (.inl (by simp)) (.slice A3 D.sure.length cA)) (fun g hg => by have := (Ha.out g hg).1; simp; omega))
  have Ha2 := hide (fun g (hg : (Value.slice A3 D.sure.length cA).ownBlock = some g) => (Ha.out g hg).1)
  clear L1 L2 Lb Ho Ha c0 c1 c2 c3 f0 f1 f2 f3
  generalize w3.setCell ⟨w.heap.size, 0, none⟩ (.slice A3 D.sure.length cA) = w4 at *
  go_loopw [22] (fun x wr => ∃ j : Nat, j ≤ D.queue.length ∧ x = .int .i64 (j : Int) ∧ Blk wr w.heap.size 51 #[.slice A3 D.sure.length cA, .slice Aq D.queue.length cq, .int .i64 st, .int .i64 lf] ∧ (∃ z0 z1 z2 z3, Blk wr (w.heap.size + 1) 51 #[z0, z1, z2, z3]) ∧
    wr.ownsRow w.heap.size 9 1 (.slice A3 D.sure.length cA) D.sure.length (strC (putQ (D.queue.take j) D.sure)) ∧ Below w.heap.size w wr) (fun x _ => D.queue.length - (intOf x).toNat)
  case atStart => exact ⟨0, Nat.zero_le _, rfl, N1.out, N2.out, No.out, Nb.out⟩
  case round =>
    obtain ⟨j, hj, rfl, g1, g2, g3, g4⟩ := hrel
    have G1 := hide g1
    have G2 := hide g2
    have G3 := hide g3
    have G4 := hide g4
    clear g1 g2 g3 g4 N1 N2 No Nb
    by_cases hlt : j < D.queue.length
    · obtain ⟨x, hx⟩ : ∃ x, D.queue[j]? = some x := ⟨_, List.getElem?_eq_getElem hlt⟩
      obtain ⟨hxl, hxs⟩ := hq.out x (List.mem_of_getElem? hx)
      obtain ⟨gq, hAq, q1, q2⟩ := (H.out.below G4.out).atQ j x hx
      have hgq : gq < w.heap.size := by
        have := (H.out.qLt gq (by rw [hAq]; rfl)).2
        exact this
      obtain ⟨g, u, hA3, hg1, hg2, s1, s2, s3⟩ := own_set G3.out hxs
      have hgb := Ha2.out g (by rw [hA3]; rfl)
      have hst := hide (putQ_step D.queue j D.sure x hx)
      have P3 := hide (s3 (.string (txt x.2)))
      have P1 := hide (G1.out.far (p := ⟨g, x.1, none⟩) (show w.heap.size ≠ g by omega) (.string (txt x.2)))
      have P2 : Hid (∃ z0 z1 z2 z3, Blk (wr.setCell ⟨g, x.1, none⟩ (.string (txt x.2))) (w.heap.size + 1) 51 #[z0, z1, z2, z3]) := by
        obtain ⟨z0, z1, z2, z3, hz⟩ := G2.out
        exact hide ⟨z0, z1, z2, z3, hz.far (p := ⟨g, x.1, none⟩) (show w.heap.size + 1 ≠ g by omega) _⟩
      have P4 := hide (G4.out.setCell (p := ⟨g, x.1, none⟩) (show w.heap.size ≤ g by omega) (.string (txt x.2)))
      have S1 : wr.cell? ⟨w.heap.size, 0, none⟩ = some (.slice A3 D.sure.length cA) := G1.out.cell 0
      have S2 : wr.cell? ⟨w.heap.size, 1, none⟩ = some (.slice Aq D.queue.length cq) := G1.out.cell 1
      have T1 : (wr.setCell ⟨g, x.1, none⟩ (.string (txt x.2))).cell? ⟨w.heap.size, 0, none⟩ = some (.slice A3 D.sure.length cA) := P1.out.cell 0
      have T2 : (wr.setCell ⟨g, x.1, none⟩ (.string (txt x.2))).cell? ⟨w.heap.size, 1, none⟩ = some (.slice Aq D.queue.length cq) := P1.out.cell 1
      have T3 : (wr.setCell ⟨g, x.1, none⟩ (.string (txt x.2))).cell? ⟨gq, j * 2, none⟩ = some (.int .i64 (x.1 : Int)) := (World.cell?_of_block (Below.heap_setCell wr ⟨g, x.1, none⟩ _ gq (show gq ≠ g by omega))).trans q1
      have T4 : (wr.setCell ⟨g, x.1, none⟩ (.string (txt x.2))).cell? ⟨gq, j * 2 + 1, none⟩ = some (.string (txt x.2)) := (World.cell?_of_block (Below.heap_setCell wr ⟨g, x.1, none⟩ _ gq (show gq ≠ g by omega))).trans q2
      subst hA3 hAq
      clear s3 hx hgq hgb hg1 hg2
      go_wp2_with fail
      refine wp_region_noPanic ?_
      refine wp_region_held_drew (S := (fun w' => w'.cell? ⟨w.heap.size, 0, none⟩ = some (.slice (some ⟨g, 0, none⟩) D.sure.length cA) ∧ w'.cell? ⟨w.heap.size, 1, none⟩ = some (.slice (some ⟨gq, 0, none⟩) D.queue.length cq) ∧ w'.cell? ⟨gq, j * 2, none⟩ = some (.int .i64 (x.1 : Int)) ∧ w'.cell? ⟨gq, j * 2 + 1, none⟩ = some (.string (txt x.2)))) (by kernel_rfl) ?_ (fun hHeld => ?_)
      · ((try dsimp only) <;> (first | trivial | assumption | go_keep))
      refine wpAnyH_take (i := 0) (v := ?_) (by simp only [List.getElem?_toArray, List.getElem?_cons_succ, List.getElem?_cons_zero]; rfl) (by kernel_rfl) (by kernel_rfl) (by kernel_rfl) (fun _ _ _ h => h) (Or.inl ⟨by rfl, ?_⟩) (by assumption) ?_
      rotate_left 1
      · (intro w hSw; (try dsimp only at hSw); go_simp; try with_reducible rfl)
      try simp only [Act.put, List.setIfInBounds_toArray, List.set_cons_zero, List.set_cons_succ]
      refine wpAnyH_take (i := 1) (v := ?_) (by simp only [List.getElem?_toArray, List.getElem?_cons_succ, List.getElem?_cons_zero]; rfl) (by kernel_rfl) (by kernel_rfl) (by kernel_rfl) (fun _ _ _ h => h) (Or.inl ⟨by rfl, ?_⟩) (by assumption) ?_
      rotate_left 1
      · (intro w hSw; (try dsimp only at hSw); go_simp; try with_reducible rfl)
      try simp only [Act.put, List.setIfInBounds_toArray, List.set_cons_zero, List.set_cons_succ]
      refine wpAnyH_take (i := 2) (v := ?_) (by simp only [List.getElem?_toArray, List.getElem?_cons_succ, List.getElem?_cons_zero]; rfl) (by kernel_rfl) (by kernel_rfl) (by kernel_rfl) (fun _ _ _ h => h) (Or.inl ⟨by rfl, ?_⟩) (by assumption) ?_
      rotate_left 1
      · (intro w hSw; (try dsimp only at hSw); go_simp; try with_reducible rfl)
      try simp only [Act.put, List.setIfInBounds_toArray, List.set_cons_zero, List.set_cons_succ]
      refine wpAnyH_take (i := 3) (v := ?_) (by simp only [List.getElem?_toArray, List.getElem?_cons_succ, List.getElem?_cons_zero]; rfl) (by kernel_rfl) (by kernel_rfl) (by kernel_rfl) (fun _ _ _ h => h) (Or.inl ⟨by rfl, ?_⟩) (by assumption) ?_
      rotate_left 1
      · (intro w hSw; (try dsimp only at hSw); go_simp; try with_reducible rfl)
      try simp only [Act.put, List.setIfInBounds_toArray, List.set_cons_zero, List.set_cons_succ]
      refine wpAnyH_take (i := 4) (v := ?_) (by simp only [List.getElem?_toArray, List.getElem?_cons_succ, List.getElem?_cons_zero]; rfl) (by kernel_rfl) (by kernel_rfl) (by kernel_rfl) (fun _ _ _ h => h) (Or.inl ⟨by rfl, ?_⟩) (by assumption) ?_
      rotate_left 1
      · (intro w hSw; (try dsimp only at hSw); go_simp; try with_reducible rfl)
      try simp only [Act.put, List.setIfInBounds_toArray, List.set_cons_zero, List.set_cons_succ]
      refine wpAnyH_take (i := 5) (v := ?_) (by simp only [List.getElem?_toArray, List.getElem?_cons_succ, List.getElem?_cons_zero]; rfl) (by kernel_rfl) (by kernel_rfl) (by kernel_rfl) (fun _ _ _ h => h) (Or.inl ⟨by rfl, ?_⟩) (by assumption) ?_
      rotate_left 1
      · (intro w hSw; (try dsimp only at hSw); go_simp; try with_reducible rfl)
      try simp only [Act.put, List.setIfInBounds_toArray, List.set_cons_zero, List.set_cons_succ]
      refine wpAnyH_take (i := 6) (v := ?_) (by simp only [List.getElem?_toArray, List.getElem?_cons_succ, List.getElem?_cons_zero]; rfl) (by kernel_rfl) (by kernel_rfl) (by kernel_rfl) (fun _ _ _ h => h) (Or.inl ⟨by rfl, ?_⟩) (by assumption) ?_
      rotate_left 1
      · (intro w hSw; (try dsimp only at hSw); go_simp; try with_reducible rfl)
      try simp only [Act.put, List.setIfInBounds_toArray, List.set_cons_zero, List.set_cons_succ]
      refine wpAnyH_take (i := 7) (v := ?_) (by simp only [List.getElem?_toArray, List.getElem?_cons_succ, List.getElem?_cons_zero]; rfl) (by kernel_rfl) (by kernel_rfl) (by kernel_rfl) (fun _ _ _ h => h) (Or.inl ⟨by rfl, ?_⟩) (by assumption) ?_
      rotate_left 1
      · (intro w hSw; (try dsimp only at hSw); go_simp; try with_reducible rfl)
      try simp only [Act.put, List.setIfInBounds_toArray, List.set_cons_zero, List.set_cons_succ]
      refine wpAnyH_take (i := 8) (v := ?_) (by simp only [List.getElem?_toArray, List.getElem?_cons_succ, List.getElem?_cons_zero]; rfl) (by kernel_rfl) (by kernel_rfl) (by kernel_rfl) (fun _ _ _ h => h) (Or.inl ⟨by rfl, ?_⟩) (by assumption) ?_
      rotate_left 1
      · (intro w hSw; (try dsimp only at hSw); go_simp; try with_reducible rfl)
      try simp only [Act.put, List.setIfInBounds_toArray, List.set_cons_zero, List.set_cons_succ]
      refine wpAnyH_take (i := 9) (v := ?_) (by simp only [List.getElem?_toArray, List.getElem?_cons_succ, List.getElem?_cons_zero]; rfl) (by kernel_rfl) (by kernel_rfl) (by kernel_rfl) (fun _ _ _ h => h) (Or.inl ⟨by rfl, ?_⟩) (by assumption) ?_
      rotate_left 1
      · (intro w hSw; (try dsimp only at hSw); go_simp; try with_reducible rfl)
      try simp only [Act.put, List.setIfInBounds_toArray, List.set_cons_zero, List.set_cons_succ]
      refine wpAnyH_take (i := 10) (v := ?_) (by simp only [List.getElem?_toArray, List.getElem?_cons_succ, List.getElem?_cons_zero]; rfl) (by kernel_rfl) (by kernel_rfl) (by kernel_rfl) (fun _ _ _ h => h) (Or.inl ⟨by rfl, ?_⟩) (by assumption) ?_
      rotate_left 1
      · (intro w hSw; (try dsimp only at hSw); go_simp; try with_reducible rfl)
      try simp only [Act.put, List.setIfInBounds_toArray, List.set_cons_zero, List.set_cons_succ]
      refine wpAnyH_take (i := 11) (v := ?_) (by simp only [List.getElem?_toArray, List.getElem?_cons_succ, List.getElem?_cons_zero]; rfl) (by kernel_rfl) (by kernel_rfl) (by kernel_rfl) (fun _ _ _ h => h) (Or.inl ⟨by rfl, ?_⟩) (by assumption) ?_
      rotate_left 1
      · (intro w hSw; (try dsimp only at hSw); go_simp; try with_reducible rfl)
      try simp only [Act.put, List.setIfInBounds_toArray, List.set_cons_zero, List.set_cons_succ]
      refine wpAnyH_take (i := 12) (v := ?_) (by simp only [List.getElem?_toArray, List.getElem?_cons_succ, List.getElem?_cons_zero]; rfl) (by kernel_rfl) (by kernel_rfl) (by kernel_rfl) (fun _ _ _ h => h) (Or.inl ⟨by rfl, ?_⟩) (by assumption) ?_
      rotate_left 1
      · (intro w hSw; (try dsimp only at hSw); go_simp; try with_reducible rfl)
      try simp only [Act.put, List.setIfInBounds_toArray, List.set_cons_zero, List.set_cons_succ]
      refine wpAnyH_take (i := 13) (v := ?_) (by simp only [List.getElem?_toArray, List.getElem?_cons_succ, List.getElem?_cons_zero]; rfl) (by kernel_rfl) (by kernel_rfl) (by kernel_rfl) (fun _ _ _ h => h) (Or.inl ⟨by rfl, ?_⟩) (by assumption) ?_
      rotate_left 1
      · (intro w hSw; (try dsimp only at hSw); go_simp; try with_reducible rfl)
      try simp only [Act.put, List.setIfInBounds_toArray, List.set_cons_zero, List.set_cons_succ]
      refine wpAnyH_take (i := 14) (v := ?_) (by simp only [List.getElem?_toArray, List.getElem?_cons_succ, List.getElem?_cons_zero]; rfl) (by kernel_rfl) (by kernel_rfl) (by kernel_rfl) (fun _ _ _ h => h) (Or.inl ⟨by rfl, ?_⟩) (by assumption) ?_
      rotate_left 1
      · (intro w hSw; (try dsimp only at hSw); go_simp; try with_reducible rfl)
      try simp only [Act.put, List.setIfInBounds_toArray, List.set_cons_zero, List.set_cons_succ]
      refine wpAnyH_ready (rs := [15]) (by kernel_rfl) (by simp) ?_
      refine AllReadyH.cons (by simp only [List.getElem?_toArray, List.getElem?_cons_succ, List.getElem?_cons_zero]; rfl) (fun K hK => ?_) ?_
      rotate_left 1
      · exact AllReadyH.nil
      go_simp
      refine hK.out _ _ ?_ (fun hHeld2 => ?_)
      · ((try dsimp only) <;> (first | trivial | assumption | go_keep))
      clear hHeld
      have hHeld := hHeld2
      clear hHeld2 hK K
      try simp only [Act.put, List.setIfInBounds_toArray, List.set_cons_zero, List.set_cons_succ]
      refine wpAnyH_done (by kernel_rfl) ?_ _
      refine NoPanic.normal ?_
      go_wp2_with fail
      go_roundw
      case rel =>
        refine ⟨j + 1, by omega, by go_num, P1.out.drew, ?_, ?_, P4.out.drew⟩
        · obtain ⟨z0, z1, z2, z3, hz⟩ := P2.out
          exact ⟨z0, z1, z2, z3, hz.drew⟩
        · rw [hst.out]
          rw [show strC ((putQ (D.queue.take j) D.sure).set x.1 x.2) = (strC (putQ (D.queue.take j) D.sure)).set x.1 (.string (txt x.2)) by simp [strC, List.map_set]]
          exact P3.out
      case measure => simp [intOf]; omega
    · have hjn : j = D.queue.length := by omega
      have hall : D.queue.take j = D.queue := List.take_of_length_le (by omega)
      rw [hall] at G3
      obtain ⟨c0, c1, c2, c3, f0, f1, f2, f3⟩ := blk4 G1.out
      obtain ⟨z0, z1, z2, z3, hz⟩ := G2.out
      obtain ⟨d0, d1, d2, d3, e0, e1, e2, e3⟩ := blk4 hz
      clear hall hjn hz
      go_wp2_with fail
      refine bodyPost_ret (v := .tuple #[.agg #[.slice A3 D.sure.length cA, .slice none 0 0, .int .i64 st, .int .i64 lf], .int .i64 0]) (by simp [results, Try.results27, go_sem, d0, d1, d2, d3]) rfl ?_
      have hbel := bel4 (G4.out.setCell (p := ⟨w.heap.size, 1, none⟩) (Nat.le_refl _) (.slice none 0 0)) (Nat.le_succ w.heap.size) (.slice A3 D.sure.length cA) (.slice none 0 0) (.int .i64 st) (.int .i64 lf)
      have hk : Kp [w.heap.size, w.heap.size + 1] wr _ := ((((((Kp.refl _ wr).set (p := ⟨w.heap.size, 1, none⟩) (.inl (by simp)) (.slice none 0 0)).set (p := ⟨w.heap.size + 1, 0, none⟩) (.inl (by simp)) (.slice A3 D.sure.length cA)).set (p := ⟨w.heap.size + 1, 1, none⟩) (.inl (by simp)) (.slice none 0 0)).set (p := ⟨w.heap.size + 1, 2, none⟩) (.inl (by simp)) (.int .i64 st)).set (p := ⟨w.heap.size + 1, 3, none⟩) (.inl (by simp)) (.int .i64 lf))
      have hlen : D.barred.sure.length = D.sure.length := putQ_len _ _
      refine ⟨A3, cA, ?_, ⟨?_, World.ownsRow_nil _ _ _ _, hok.out⟩, hbel, fun g hg => ?_⟩
      · rw [hlen, show (D.barred.steps : Int) = st from hst.out, show D.barred.left = lf from hlf.out]
        rfl
      · rw [hlen]
        exact own_base65 (own_kp G3.out hk (fun g hg => by
          have := Ha2.out g hg
          simp; omega)) hbs
      · have := Ha2.out g (by rw [← hg]; exact ob _ _ _)
        omega
end Go.Proofs.Ytpcaaobninnkaaa
