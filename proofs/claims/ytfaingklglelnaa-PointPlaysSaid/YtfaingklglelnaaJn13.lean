import Derived.Test.YtfaingklglelnaaJn12
import Derived.Test.YtfaingklglelnaaJn10
/- The reference's Save as one answer. -/
namespace Go.Proofs.Ytfaingklglelnaa
open Go.RowKit
attribute [local go_sem ↓] Go.wp_at_zero Go.wp_at_succ

/-- A fact that neither simp nor contradiction sees. -/
structure Seal (p : Prop) : Prop where
  un : p
theorem saveP_wrt (D : Dsk) (p : Pt) : saveP D p = if D.sure.length < 3 then (22, D) else if 0 < (countsP D).1 ∧ p.newer (countsP D).2 = false then (103, D) else
    if (wrtP D ((if (countsP D).1 = 1 then 2 else 1 : Nat) : Int) p.bytes).1 ≠ 0 then wrtP D ((if (countsP D).1 = 1 then 2 else 1 : Nat) : Int) p.bytes else barP (wrtP D ((if (countsP D).1 = 1 then 2 else 1 : Nat) : Int) p.bytes).2 := by
  unfold saveP
  by_cases h1 : D.sure.length < 3
  · rw [if_pos h1, if_pos h1]
  · rw [if_neg h1, if_neg h1]
    split
    · rfl
    · generalize hi : (if (countsP D).1 = 1 then 2 else 1 : Nat) = i
      have hi3 : i < 3 := by rw [← hi]; split <;> omega
      have hw : wrtP D (i : Int) p.bytes = if D.left = 0 then (102, D) else (0, D.wrote i p.bytes) := by
        unfold wrtP
        rw [if_neg (fun h => h ⟨Int.natCast_nonneg _, by omega⟩), Int.toNat_natCast]
      rw [hw]
      by_cases hl : D.left = 0
      · simp only [if_pos hl]
        rfl
      · simp only [if_neg hl]
        unfold barP
        rfl
def W0c (w : World) (As : Option Addr) (cs : Nat) (Aq : Option Addr) (cq : Nat) (D : Dsk) (e c n f : Int) : World :=
  ((w.alloc (.cells #[.slice As D.sure.length cs, .slice Aq D.queue.length cq, .int .i64 (D.steps : Int), .int .i64 D.left] 64)).alloc (.cells (ptC e c n f) 30)).alloc (.cells #[.slice none 0 0, .slice none 0 0, .int .i64 0, .int .i64 0] 64)
section
variable (w : World) (As : Option Addr) (cs : Nat) (Aq : Option Addr) (cq : Nat) (D : Dsk) (e c n f : Int)
theorem w0_1 : Blk (W0c w As cs Aq cq D e c n f) w.heap.size 64 #[.slice As D.sure.length cs, .slice Aq D.queue.length cq, .int .i64 (D.steps : Int), .int .i64 D.left] := ((Blk.new _ _ _).alloc _).alloc _
theorem w0_2 : Blk (W0c w As cs Aq cq D e c n f) (w.heap.size + 1) 30 (ptC e c n f) := by
  have := (Blk.new (w.alloc (.cells #[.slice As D.sure.length cs, .slice Aq D.queue.length cq, .int .i64 (D.steps : Int), .int .i64 D.left] 64)) 30 (ptC e c n f)).alloc (.cells #[.slice none 0 0, .slice none 0 0, .int .i64 0, .int .i64 0] 64)
  rwa [World.size_alloc] at this
theorem w0_3 : Blk (W0c w As cs Aq cq D e c n f) (w.heap.size + 2) 64 #[.slice none 0 0, .slice none 0 0, .int .i64 0, .int .i64 0] := by
  have := Blk.new ((w.alloc (.cells #[.slice As D.sure.length cs, .slice Aq D.queue.length cq, .int .i64 (D.steps : Int), .int .i64 D.left] 64)).alloc (.cells (ptC e c n f) 30)) 64 #[.slice none 0 0, .slice none 0 0, .int .i64 0, .int .i64 0]
  rwa [World.size_alloc, World.size_alloc] at this
theorem w0_b : Below w.heap.size w (W0c w As cs Aq cq D e c n f) := (((Below.refl _ _).alloc (Nat.le_refl _) _).alloc (by simp) _).alloc (by simp; omega) _
end
theorem saveP_go (D : Dsk) (p q : Pt) (cn i : Nat) (h3 : ¬ D.sure.length < 3) (hcq : (cn, q) = countsP D) (hn : ¬ (0 < cn ∧ p.newer q = false)) (hi : i = if cn = 1 then 2 else 1) :
    saveP D p = if (wrtP D (i : Int) p.bytes).1 ≠ 0 then wrtP D (i : Int) p.bytes else barP (wrtP D (i : Int) p.bytes).2 := by
  rw [saveP_wrt, if_neg h3, ← hcq, if_neg hn, hi]
theorem saveP_103 (D : Dsk) (p q : Pt) (cn : Nat) (h3 : ¬ D.sure.length < 3) (hcq : (cn, q) = countsP D) (hn : 0 < cn ∧ p.newer q = false) : saveP D p = (103, D) := by
  rw [saveP_wrt, if_neg h3, ← hcq, if_pos hn]
theorem pt4 {w : World} {g : Nat} {a b c d : Int} (h : Blk w g 30 (ptC a b c d)) : w.cell? ⟨g, 0, none⟩ = some (.int .i64 a) ∧ w.cell? ⟨g, 1, none⟩ = some (.int .i64 b) ∧ w.cell? ⟨g, 2, none⟩ = some (.int .i64 c) ∧ w.cell? ⟨g, 3, none⟩ = some (.int .i64 d) := ⟨h.cell 0, h.cell 1, h.cell 2, h.cell 3⟩
set_option maxRecDepth 100000 in
theorem rsave_no (base : Nat) (As : Option Addr) (cs : Nat) (Aq : Option Addr) (cq : Nat) (D : Dsk) (e c n f : Int) (hp : ¬ PtP e c n f) (w : World) (h : RefM w base As cs Aq cq D) :
    Calls Try.prog 26 #[.agg (refV As cs Aq cq D), ptV e c n f] w (RefAns base w As Aq (22, D)) := by
  have K1 := hide (w0_1 w As cs Aq cq D e c n f)
  have K2 := hide (w0_2 w As cs Aq cq D e c n f)
  have K3 := hide (w0_3 w As cs Aq cq D e c n f)
  have R1 := hide (RS.start (g1 := w.heap.size) (g2 := w.heap.size + 2) h (w0_b w As cs Aq cq D e c n f) ⟨Nat.le_refl _, K1.out.lt⟩ ⟨by omega, K3.out.lt⟩)
  obtain ⟨w1, hw1⟩ : ∃ W, W = W0c w As cs Aq cq D e c n f := ⟨_, rfl⟩
  rw [← hw1] at K1 K2 K3 R1
  unfold W0c at hw1
  have HP := hide (decide_eq_false hp)
  clear h hp
  unfold refV
  go_enter Try.func26, Try.ntmps26
  go_upto_region 1 with fail
  rw [← hw1]
  clear hw1
  obtain ⟨c0, c1, c2, c3, -⟩ := cell4 K2.out
  go_wp2_with fail
  clear c0 c1 c2 c3
  refine (rgood_any e c n f w1).mono ?_
  rintro r w2 ⟨rfl, hb⟩
  rw [HP.out]
  replace K1 := hide (K1.out.below hb)
  replace K3 := hide (K3.out.below hb)
  replace R1 := hide (R1.out.below hb)
  clear hb
  obtain ⟨c0, c1, c2, c3, -⟩ := cell4 K1.out
  obtain ⟨d0, d1, d2, d3, f0, f1, f2, f3⟩ := cell4 K3.out
  go_wp2_with fail
  exact ret_da rfl rfl rfl rfl (set4b K3.out _ _ _ _) ⟨As, cs, Aq, cq, rfl, (R1.out.set4 (.inr rfl) _ _ _ _).n⟩

set_option maxRecDepth 20000 in
set_option maxHeartbeats 2000000 in
theorem rsave_yes (base : Nat) (As : Option Addr) (cs : Nat) (Aq : Option Addr) (cq : Nat) (D : Dsk) (p : Pt) (hp : p.P) (w : World) (h : RefM w base As cs Aq cq D) (hbs : base ≤ w.heap.size) (hs : D.steps < 900000) (hq : D.queue.length < 900000) :
    Calls Try.prog 26 #[.agg (refV As cs Aq cq D), p.val] w (RefAns base w As Aq (saveP D p)) := by
  obtain ⟨e, c, n, f⟩ := p
  have K1 := hide (w0_1 w As cs Aq cq D e c n f)
  have K2 := hide (w0_2 w As cs Aq cq D e c n f)
  have K3 := hide (w0_3 w As cs Aq cq D e c n f)
  have R1 := hide (RS.start (g1 := w.heap.size) (g2 := w.heap.size + 2) h (w0_b w As cs Aq cq D e c n f) ⟨Nat.le_refl _, K1.out.lt⟩ ⟨by omega, K3.out.lt⟩)
  obtain ⟨w1, hw1⟩ : ∃ W, W = W0c w As cs Aq cq D e c n f := ⟨_, rfl⟩
  rw [← hw1] at K1 K2 K3 R1
  unfold W0c at hw1
  have HP := hide hp
  have HPd := hide (decide_eq_true hp)
  have HN := h.ok.n
  have HS := hide hs
  have HQ := hide hq
  have HBS := hide hbs
  have hne : Hid (w.heap.size + 2 ≠ w.heap.size) := hide (by omega)
  have hnf : Hid (w.heap.size + 1 ≠ w.heap.size) := hide (by omega)
  obtain ⟨W0, hW0⟩ : ∃ R, R = saveP D ⟨e, c, n, f⟩ := ⟨_, rfl⟩
  have HW0 : Seal (W0 = saveP D ⟨e, c, n, f⟩) := ⟨hW0⟩
  rw [← hW0]
  clear h hp hs hq hbs hW0
  unfold refV
  show Calls _ _ #[_, ptV e c n f] _ _
  go_enter Try.func26, Try.ntmps26
  go_upto_region 1 with fail
  rw [← hw1]
  clear hw1
  obtain ⟨c0, c1, c2, c3, -⟩ := cell4 K2.out
  go_wp2_with fail
  clear c0 c1 c2 c3
  refine (rgood_any e c n f w1).mono ?_
  rintro r w2 ⟨rfl, hb⟩
  rw [HPd.out]
  clear HPd
  replace K1 := hide (K1.out.below hb)
  replace K2 := hide (K2.out.below hb)
  replace K3 := hide (K3.out.below hb)
  have R2 := hide (R1.out.below hb)
  clear hb R1
  obtain ⟨c0, c1, c2, c3, -⟩ := cell4 K1.out
  by_cases h3 : D.sure.length < 3
  · have h3d : decide ((D.sure.length : Int) < 3) = true := decide_eq_true (by omega)
    have HW : Hid (W0 = (22, D)) := hide (by rw [HW0.un, saveP_wrt, if_pos h3])
    obtain ⟨d0, d1, d2, d3, f0, f1, f2, f3⟩ := cell4 K3.out
    clear h3
    go_wp2_with fail
    exact ret_da rfl rfl rfl rfl (set4b K3.out _ _ _ _) (by rw [HW.out]; exact ⟨As, cs, Aq, cq, rfl, (R2.out.set4 (.inr rfl) _ _ _ _).n⟩)
  · have h3d : decide ((D.sure.length : Int) < 3) = false := decide_eq_false (by omega)
    have H3 := hide h3
    clear h3
    go_upto_region 3 with fail
    clear h3d HN
    go_wp2_with fail
    clear c0 c1 c2 c3
    have C1 := rcounts_any w2 base As cs Aq cq D R2.out.n.rm
    unfold refV at C1
    refine C1.mono ?_
    rintro r w3 ⟨rfl, hb⟩
    obtain ⟨⟨cn, qe, qc, qn, qf⟩, hcq⟩ : ∃ x, x = countsP D := ⟨_, rfl⟩
    rw [← hcq]
    have HCQ : Seal ((cn, (⟨qe, qc, qn, qf⟩ : Pt)) = countsP D) := ⟨hcq⟩
    replace K1 := hide (K1.out.below hb)
    replace K2 := hide (K2.out.below hb)
    replace K3 := hide (K3.out.below hb)
    have R3 := hide (R2.out.below hb)
    clear hb R2 hcq C1
    go_upto_region 4 with fail
    have hb4 : Below w3.heap.size w3 (w3.alloc (.cells (ptC qe qc qn qf) 30)) := (Below.refl _ _).alloc (Nat.le_refl _) _
    replace K1 := hide (K1.out.below hb4)
    replace K2 := hide (K2.out.below hb4)
    replace K3 := hide (K3.out.below hb4)
    have K4 := hide (Blk.new w3 30 (ptC qe qc qn qf))
    have R4 := hide (R3.out.below hb4)
    clear hb4 R3
    obtain ⟨g4, hg4⟩ : ∃ g, g = w3.heap.size := ⟨_, rfl⟩
    rw [← hg4] at K4 ⊢
    clear hg4
    generalize w3.alloc _ = w4 at *
    by_cases h0 : cn = 0
    · subst h0
      have HWW := Seal.mk (saveP_go D ⟨e, c, n, f⟩ ⟨qe, qc, qn, qf⟩ 0 1 H3.out HCQ.un (fun h => by omega) (by rw [if_neg (by omega)]))
      go_upto_region 9 with fail
      clear K4
      have s0 := pt4 K2.out.drew
      refine wp_region_noPanic ?_
      refine wp_region_held_drew (S := (fun w' => w'.cell? ⟨w.heap.size + 1, 0, none⟩ = some (.int .i64 e) ∧ w'.cell? ⟨w.heap.size + 1, 1, none⟩ = some (.int .i64 c) ∧ w'.cell? ⟨w.heap.size + 1, 2, none⟩ = some (.int .i64 n) ∧ w'.cell? ⟨w.heap.size + 1, 3, none⟩ = some (.int .i64 f))) (by kernel_rfl) ?_ (fun hHeld => ?_)
      · ((try dsimp only) <;> (first | trivial | assumption | go_keep))
      clear s0
      replace K1 := hide K1.out.drew
      replace K2 := hide K2.out.drew
      replace K3 := hide K3.out.drew
      have R5 := hide (R4.out.below (Below.refl _ _).drew)
      generalize w4.drew = wd at *
      clear R4
      refine wpAnyH_take (i := 1) (v := ?_) (by simp only [List.getElem?_toArray, List.getElem?_cons_succ, List.getElem?_cons_zero]; rfl) (by kernel_rfl) (by kernel_rfl) (by kernel_rfl) (fun _ _ _ h => h) (Or.inl ⟨by rfl, ?_⟩) (by assumption) ?_
      rotate_left 1
      · (intro w hSw; (try dsimp only at hSw); go_simp; try with_reducible rfl)
      try simp only [Act.put, List.setIfInBounds_toArray, List.set_cons_zero, List.set_cons_succ]
      refine wpAnyH_take (i := 2) (v := ?_) (by simp only [List.getElem?_toArray, List.getElem?_cons_succ, List.getElem?_cons_zero]; rfl) (by kernel_rfl) (by kernel_rfl) (by kernel_rfl) (fun _ _ _ h => h) (Or.inl ⟨by rfl, ?_⟩) (by assumption) ?_
      rotate_left 1
      · (intro w hSw; (try dsimp only at hSw); go_simp; try with_reducible rfl)
      try simp only [Act.put, List.setIfInBounds_toArray, List.set_cons_zero, List.set_cons_succ]
      refine wpAnyH_ready (rs := [0, 3]) (by kernel_rfl) (by simp) ?_
      refine AllReadyH.cons (by simp only [List.getElem?_toArray, List.getElem?_cons_succ, List.getElem?_cons_zero]; rfl) (fun K hK => ?_) ?_
      rotate_left 1
      refine AllReadyH.cons (by simp only [List.getElem?_toArray, List.getElem?_cons_succ, List.getElem?_cons_zero]; rfl) (fun K hK => ?_) ?_
      rotate_left 1
      exact AllReadyH.nil
      · obtain ⟨c0, c1, c2, c3, -⟩ := cell4 K1.out
        go_simp
        refine hK.out _ _ ?_ (fun hHeld2 => ?_)
        · ((try dsimp only) <;> (first | trivial | assumption | go_keep))
        clear hHeld
        have hHeld := hHeld2
        clear hHeld2 hK K
        try simp only [Act.put, List.setIfInBounds_toArray, List.set_cons_zero, List.set_cons_succ]
        clear c0 c1 c2 c3
        refine wpAnyH_ready (rs := [3]) (by kernel_rfl) (by simp) ?_
        refine AllReadyH.cons (by simp only [List.getElem?_toArray, List.getElem?_cons_succ, List.getElem?_cons_zero]; rfl) (fun K hK => ?_) ?_
        rotate_left 1
        · exact AllReadyH.nil
        go_simp
        refine (renc17 e c n f wd HP.out).mono ?_; rintro r we ⟨rfl, hb⟩; replace K1 := hide (K1.out.below hb); replace K2 := hide (K2.out.below hb); replace K3 := hide (K3.out.below hb); have R6 := hide (R5.out.below hb); clear hb R5
        refine hK.out _ _ ?_ (fun hHeld2 => ?_)
        · ((try dsimp only) <;> (exact pt4 K2.out))
        clear hHeld
        have hHeld := hHeld2
        clear hHeld2 hK K
        try simp only [Act.put, List.setIfInBounds_toArray, List.set_cons_zero, List.set_cons_succ]
        refine wpAnyH_ready (rs := [4]) (by kernel_rfl) (by simp) ?_
        refine AllReadyH.cons (by simp only [List.getElem?_toArray, List.getElem?_cons_succ, List.getElem?_cons_zero]; rfl) (fun K hK => ?_) ?_
        rotate_left 1
        · exact AllReadyH.nil
        go_simp
        have C2 := rput_ans base As cs Aq cq D 1 (ptBytes e c n f) we R6.out.n.rm (Nat.le_trans HBS.out R6.out.n.bel.size) (ptBytes_length e c n f) (by have := HS.out; omega) (by have := HQ.out; omega); unfold refV at C2; refine C2.mono ?_; rintro r w6 ⟨As1, cs1, Aq1, cq1, rfl, k1⟩; have R7 := hide (R6.out.call k1); replace K1 := hide (K1.out.below k1.bel); replace K2 := hide (K2.out.below k1.bel); replace K3 := hide (K3.out.below k1.bel); clear C2 k1 R6; unfold refV
        refine hK.out _ _ ?_ (fun hHeld2 => ?_)
        · ((try dsimp only) <;> (exact pt4 K2.out))
        clear hHeld
        have hHeld := hHeld2
        clear hHeld2 hK K
        try simp only [Act.put, List.setIfInBounds_toArray, List.set_cons_zero, List.set_cons_succ]
        have NU := hide (wrtP_num D 1 (ptBytes e c n f))
        obtain ⟨E, hE⟩ : ∃ E, E = wrtP D 1 (ptBytes e c n f) := ⟨_, rfl⟩
        rw [← hE] at R7 NU ⊢
        have HW1 : Hid (W0 = if E.1 ≠ 0 then E else barP E.2) := hide (by rw [hE, HW0.un]; exact HWW.un)
        clear hE
        refine wpAnyH_take (i := 5) (v := ?_) (by simp only [List.getElem?_toArray, List.getElem?_cons_succ, List.getElem?_cons_zero]; rfl) (by kernel_rfl) (by kernel_rfl) (by kernel_rfl) (fun _ _ _ h => h) (Or.inl ⟨by rfl, ?_⟩) (by assumption) ?_
        rotate_left 1
        · (intro w hSw; (try dsimp only at hSw); go_simp; try with_reducible rfl)
        try simp only [Act.put, List.setIfInBounds_toArray, List.set_cons_zero, List.set_cons_succ]
        refine wpAnyH_take (i := 6) (v := ?_) (by simp only [List.getElem?_toArray, List.getElem?_cons_succ, List.getElem?_cons_zero]; rfl) (by kernel_rfl) (by kernel_rfl) (by kernel_rfl) (fun _ _ _ h => h) (Or.inl ⟨by rfl, ?_⟩) (by assumption) ?_
        rotate_left 1
        · (intro w hSw; (try dsimp only at hSw); go_simp; try with_reducible rfl)
        try simp only [Act.put, List.setIfInBounds_toArray, List.set_cons_zero, List.set_cons_succ]
        refine wpAnyH_take (i := 7) (v := ?_) (by simp only [List.getElem?_toArray, List.getElem?_cons_succ, List.getElem?_cons_zero]; rfl) (by kernel_rfl) (by kernel_rfl) (by kernel_rfl) (fun _ _ _ h => h) (Or.inl ⟨by rfl, ?_⟩) (by assumption) ?_
        rotate_left 1
        · (intro w hSw; (try dsimp only at hSw); go_simp; try with_reducible rfl)
        try simp only [Act.put, List.setIfInBounds_toArray, List.set_cons_zero, List.set_cons_succ]
        obtain ⟨d0, d1, d2, d3, f0, f1, f2, f3⟩ := cell4 K1.out
        refine wpAnyH_ready (rs := [8]) (by kernel_rfl) (by simp) ?_
        refine AllReadyH.cons (by simp only [List.getElem?_toArray, List.getElem?_cons_succ, List.getElem?_cons_zero]; rfl) (fun K hK => ?_) ?_
        rotate_left 1
        · exact AllReadyH.nil
        go_simp
        skip
        refine hK.out _ _ ?_ (fun hHeld2 => ?_)
        · ((try dsimp only) <;> (exact pt4 (far4D K2.out hnf.out _ _ _ _)))
        clear hHeld
        have hHeld := hHeld2
        clear hHeld2 hK K
        try simp only [Act.put, List.setIfInBounds_toArray, List.set_cons_zero, List.set_cons_succ]
        clear d0 d1 d2 d3 f0 f1 f2 f3
        obtain ⟨w7, hw7⟩ : ∃ W, W = (((w6.setCell ⟨w.heap.size, 0, none⟩ (.slice As1 E.2.sure.length cs1)).setCell ⟨w.heap.size, 1, none⟩ (.slice Aq1 E.2.queue.length cq1)).setCell ⟨w.heap.size, 2, none⟩ (.int .i64 (E.2.steps : Int))).setCell ⟨w.heap.size, 3, none⟩ (.int .i64 E.2.left) := ⟨_, rfl⟩
        have R8 : Hid (RS base w w7 As Aq As1 cs1 Aq1 cq1 E.2 w.heap.size (w.heap.size + 2)) := hide (by rw [hw7]; exact R7.out.set4 (.inl rfl) _ _ _ _)
        have L1 : Hid (Blk w7 w.heap.size 64 #[.slice As1 E.2.sure.length cs1, .slice Aq1 E.2.queue.length cq1, .int .i64 (E.2.steps : Int), .int .i64 E.2.left]) := hide (by rw [hw7]; exact set4b K1.out _ _ _ _)
        have L3 : Hid (Blk w7 (w.heap.size + 2) 64 #[.slice none 0 0, .slice none 0 0, .int .i64 0, .int .i64 0]) := hide (by rw [hw7]; exact far4D K3.out hne.out _ _ _ _)
        rw [← hw7] at hHeld ⊢
        clear hw7 R7 K1 K2 K3
        refine wpAnyH_take (i := 9) (v := ?_) (by simp only [List.getElem?_toArray, List.getElem?_cons_succ, List.getElem?_cons_zero]; rfl) (by kernel_rfl) (by kernel_rfl) (by kernel_rfl) (fun _ _ _ h => h) (Or.inl ⟨by rfl, ?_⟩) (by assumption) ?_
        rotate_left 1
        · (intro w hSw; (try dsimp only at hSw); go_simp; try with_reducible rfl)
        try simp only [Act.put, List.setIfInBounds_toArray, List.set_cons_zero, List.set_cons_succ]
        refine wpAnyH_done (by kernel_rfl) ?_ _
        refine NoPanic.normal ?_
        clear hHeld
        obtain ⟨c0, c1, c2, c3, -⟩ := cell4 L1.out
        by_cases hd : E.1 = 0
        · have hdb : (E.1 != 0) = false := by rw [hd]; rfl
          have HW : Hid (W0 = barP E.2) := hide (by rw [HW1.out, if_neg (fun h => h hd)])
          clear hd
          go_wp2_with fail
          clear c0 c1 c2 c3
          have C2 := rbar_ans base As1 cs1 Aq1 cq1 E.2 w7 R8.out.n.rm (Nat.le_trans HBS.out R8.out.n.bel.size) (by have := HS.out; have := NU.out.1; omega)
          rw [← HW.out] at C2
          unfold refV at C2
          refine C2.mono ?_
          rintro r w8 ⟨As3, cs3, Aq3, cq3, rfl, k2⟩
          have R9 := hide (R8.out.call k2)
          replace L3 := hide (L3.out.below k2.bel)
          clear C2 k2
          obtain ⟨d0, d1, d2, d3, f0, f1, f2, f3⟩ := cell4 L3.out
          unfold refV
          go_wp2_with fail
          exact ret_da rfl rfl rfl rfl (set4b L3.out _ _ _ _) ⟨As3, cs3, Aq3, cq3, rfl, (R9.out.set4 (.inr rfl) _ _ _ _).n⟩
        · have hdb : (E.1 != 0) = true := bne_iff_ne.2 hd
          have HW : Hid (W0 = E) := hide (by rw [HW1.out, if_pos hd])
          obtain ⟨d0, d1, d2, d3, f0, f1, f2, f3⟩ := cell4 L3.out
          clear hd
          go_wp2_with fail
          exact ret_da rfl rfl rfl rfl (set4b L3.out _ _ _ _) (by rw [HW.out]; exact ⟨As1, cs1, Aq1, cq1, rfl, (R8.out.set4 (.inr rfl) _ _ _ _).n⟩)
      · obtain ⟨c0, c1, c2, c3, -⟩ := cell4 K1.out
        clear c0 c1 c2 c3
        go_simp
        refine (renc17 e c n f wd HP.out).mono ?_; rintro r we ⟨rfl, hb⟩; replace K1 := hide (K1.out.below hb); replace K2 := hide (K2.out.below hb); replace K3 := hide (K3.out.below hb); have R6 := hide (R5.out.below hb); clear hb R5
        refine hK.out _ _ ?_ (fun hHeld2 => ?_)
        · ((try dsimp only) <;> (exact pt4 K2.out))
        clear hHeld
        have hHeld := hHeld2
        clear hHeld2 hK K
        try simp only [Act.put, List.setIfInBounds_toArray, List.set_cons_zero, List.set_cons_succ]
        obtain ⟨c0, c1, c2, c3, -⟩ := cell4 K1.out
        refine wpAnyH_ready (rs := [0]) (by kernel_rfl) (by simp) ?_
        refine AllReadyH.cons (by simp only [List.getElem?_toArray, List.getElem?_cons_succ, List.getElem?_cons_zero]; rfl) (fun K hK => ?_) ?_
        rotate_left 1
        · exact AllReadyH.nil
        go_simp
        refine hK.out _ _ ?_ (fun hHeld2 => ?_)
        · ((try dsimp only) <;> (first | trivial | assumption | go_keep))
        clear hHeld
        have hHeld := hHeld2
        clear hHeld2 hK K
        try simp only [Act.put, List.setIfInBounds_toArray, List.set_cons_zero, List.set_cons_succ]
        clear c0 c1 c2 c3
        refine wpAnyH_ready (rs := [4]) (by kernel_rfl) (by simp) ?_
        refine AllReadyH.cons (by simp only [List.getElem?_toArray, List.getElem?_cons_succ, List.getElem?_cons_zero]; rfl) (fun K hK => ?_) ?_
        rotate_left 1
        · exact AllReadyH.nil
        go_simp
        have C2 := rput_ans base As cs Aq cq D 1 (ptBytes e c n f) we R6.out.n.rm (Nat.le_trans HBS.out R6.out.n.bel.size) (ptBytes_length e c n f) (by have := HS.out; omega) (by have := HQ.out; omega); unfold refV at C2; refine C2.mono ?_; rintro r w6 ⟨As1, cs1, Aq1, cq1, rfl, k1⟩; have R7 := hide (R6.out.call k1); replace K1 := hide (K1.out.below k1.bel); replace K2 := hide (K2.out.below k1.bel); replace K3 := hide (K3.out.below k1.bel); clear C2 k1 R6; unfold refV
        refine hK.out _ _ ?_ (fun hHeld2 => ?_)
        · ((try dsimp only) <;> (exact pt4 K2.out))
        clear hHeld
        have hHeld := hHeld2
        clear hHeld2 hK K
        try simp only [Act.put, List.setIfInBounds_toArray, List.set_cons_zero, List.set_cons_succ]
        have NU := hide (wrtP_num D 1 (ptBytes e c n f))
        obtain ⟨E, hE⟩ : ∃ E, E = wrtP D 1 (ptBytes e c n f) := ⟨_, rfl⟩
        rw [← hE] at R7 NU ⊢
        have HW1 : Hid (W0 = if E.1 ≠ 0 then E else barP E.2) := hide (by rw [hE, HW0.un]; exact HWW.un)
        clear hE
        refine wpAnyH_take (i := 5) (v := ?_) (by simp only [List.getElem?_toArray, List.getElem?_cons_succ, List.getElem?_cons_zero]; rfl) (by kernel_rfl) (by kernel_rfl) (by kernel_rfl) (fun _ _ _ h => h) (Or.inl ⟨by rfl, ?_⟩) (by assumption) ?_
        rotate_left 1
        · (intro w hSw; (try dsimp only at hSw); go_simp; try with_reducible rfl)
        try simp only [Act.put, List.setIfInBounds_toArray, List.set_cons_zero, List.set_cons_succ]
        refine wpAnyH_take (i := 6) (v := ?_) (by simp only [List.getElem?_toArray, List.getElem?_cons_succ, List.getElem?_cons_zero]; rfl) (by kernel_rfl) (by kernel_rfl) (by kernel_rfl) (fun _ _ _ h => h) (Or.inl ⟨by rfl, ?_⟩) (by assumption) ?_
        rotate_left 1
        · (intro w hSw; (try dsimp only at hSw); go_simp; try with_reducible rfl)
        try simp only [Act.put, List.setIfInBounds_toArray, List.set_cons_zero, List.set_cons_succ]
        refine wpAnyH_take (i := 7) (v := ?_) (by simp only [List.getElem?_toArray, List.getElem?_cons_succ, List.getElem?_cons_zero]; rfl) (by kernel_rfl) (by kernel_rfl) (by kernel_rfl) (fun _ _ _ h => h) (Or.inl ⟨by rfl, ?_⟩) (by assumption) ?_
        rotate_left 1
        · (intro w hSw; (try dsimp only at hSw); go_simp; try with_reducible rfl)
        try simp only [Act.put, List.setIfInBounds_toArray, List.set_cons_zero, List.set_cons_succ]
        obtain ⟨d0, d1, d2, d3, f0, f1, f2, f3⟩ := cell4 K1.out
        refine wpAnyH_ready (rs := [8]) (by kernel_rfl) (by simp) ?_
        refine AllReadyH.cons (by simp only [List.getElem?_toArray, List.getElem?_cons_succ, List.getElem?_cons_zero]; rfl) (fun K hK => ?_) ?_
        rotate_left 1
        · exact AllReadyH.nil
        go_simp
        skip
        refine hK.out _ _ ?_ (fun hHeld2 => ?_)
        · ((try dsimp only) <;> (exact pt4 (far4D K2.out hnf.out _ _ _ _)))
        clear hHeld
        have hHeld := hHeld2
        clear hHeld2 hK K
        try simp only [Act.put, List.setIfInBounds_toArray, List.set_cons_zero, List.set_cons_succ]
        clear d0 d1 d2 d3 f0 f1 f2 f3
        obtain ⟨w7, hw7⟩ : ∃ W, W = (((w6.setCell ⟨w.heap.size, 0, none⟩ (.slice As1 E.2.sure.length cs1)).setCell ⟨w.heap.size, 1, none⟩ (.slice Aq1 E.2.queue.length cq1)).setCell ⟨w.heap.size, 2, none⟩ (.int .i64 (E.2.steps : Int))).setCell ⟨w.heap.size, 3, none⟩ (.int .i64 E.2.left) := ⟨_, rfl⟩
        have R8 : Hid (RS base w w7 As Aq As1 cs1 Aq1 cq1 E.2 w.heap.size (w.heap.size + 2)) := hide (by rw [hw7]; exact R7.out.set4 (.inl rfl) _ _ _ _)
        have L1 : Hid (Blk w7 w.heap.size 64 #[.slice As1 E.2.sure.length cs1, .slice Aq1 E.2.queue.length cq1, .int .i64 (E.2.steps : Int), .int .i64 E.2.left]) := hide (by rw [hw7]; exact set4b K1.out _ _ _ _)
        have L3 : Hid (Blk w7 (w.heap.size + 2) 64 #[.slice none 0 0, .slice none 0 0, .int .i64 0, .int .i64 0]) := hide (by rw [hw7]; exact far4D K3.out hne.out _ _ _ _)
        rw [← hw7] at hHeld ⊢
        clear hw7 R7 K1 K2 K3
        refine wpAnyH_take (i := 9) (v := ?_) (by simp only [List.getElem?_toArray, List.getElem?_cons_succ, List.getElem?_cons_zero]; rfl) (by kernel_rfl) (by kernel_rfl) (by kernel_rfl) (fun _ _ _ h => h) (Or.inl ⟨by rfl, ?_⟩) (by assumption) ?_
        rotate_left 1
        · (intro w hSw; (try dsimp only at hSw); go_simp; try with_reducible rfl)
        try simp only [Act.put, List.setIfInBounds_toArray, List.set_cons_zero, List.set_cons_succ]
        refine wpAnyH_done (by kernel_rfl) ?_ _
        refine NoPanic.normal ?_
        clear hHeld
        obtain ⟨c0, c1, c2, c3, -⟩ := cell4 L1.out
        by_cases hd : E.1 = 0
        · have hdb : (E.1 != 0) = false := by rw [hd]; rfl
          have HW : Hid (W0 = barP E.2) := hide (by rw [HW1.out, if_neg (fun h => h hd)])
          clear hd
          go_wp2_with fail
          clear c0 c1 c2 c3
          have C2 := rbar_ans base As1 cs1 Aq1 cq1 E.2 w7 R8.out.n.rm (Nat.le_trans HBS.out R8.out.n.bel.size) (by have := HS.out; have := NU.out.1; omega)
          rw [← HW.out] at C2
          unfold refV at C2
          refine C2.mono ?_
          rintro r w8 ⟨As3, cs3, Aq3, cq3, rfl, k2⟩
          have R9 := hide (R8.out.call k2)
          replace L3 := hide (L3.out.below k2.bel)
          clear C2 k2
          obtain ⟨d0, d1, d2, d3, f0, f1, f2, f3⟩ := cell4 L3.out
          unfold refV
          go_wp2_with fail
          exact ret_da rfl rfl rfl rfl (set4b L3.out _ _ _ _) ⟨As3, cs3, Aq3, cq3, rfl, (R9.out.set4 (.inr rfl) _ _ _ _).n⟩
        · have hdb : (E.1 != 0) = true := bne_iff_ne.2 hd
          have HW : Hid (W0 = E) := hide (by rw [HW1.out, if_pos hd])
          obtain ⟨d0, d1, d2, d3, f0, f1, f2, f3⟩ := cell4 L3.out
          clear hd
          go_wp2_with fail
          exact ret_da rfl rfl rfl rfl (set4b L3.out _ _ _ _) (by rw [HW.out]; exact ⟨As1, cs1, Aq1, cq1, rfl, (R8.out.set4 (.inr rfl) _ _ _ _).n⟩)
    · have h0d : decide (0 < (cn : Int)) = true := decide_eq_true (by omega)
      have H0 := hide h0
      obtain ⟨c0, c1, c2, c3, -⟩ := cell4 K2.out
      obtain ⟨d0, d1, d2, d3, -⟩ := cell4 K4.out
      go_wp2_with fail
      clear h0 h0d c0 c1 c2 c3 d0 d1 d2 d3
      refine (rnewer_any e c n f qe qc qn qf w4).mono ?_
      rintro r w5 ⟨rfl, hb⟩
      replace K1 := hide (K1.out.below hb)
      replace K2 := hide (K2.out.below hb)
      replace K3 := hide (K3.out.below hb)
      replace R4 := hide (R4.out.below hb)
      clear hb K4
      by_cases hn : newP e c qe qc = true
      · rw [hn]
        have HNW := hide (show Pt.newer ⟨e, c, n, f⟩ ⟨qe, qc, qn, qf⟩ = true from hn)
        clear hn
        by_cases h1 : cn = 1
        · have h1b : ((cn : Int) == 1) = true := beq_iff_eq.2 (by omega)
          have HWW := Seal.mk (saveP_go D ⟨e, c, n, f⟩ ⟨qe, qc, qn, qf⟩ cn 2 H3.out HCQ.un (fun h => by rw [HNW.out] at h; cases h.2) (by rw [if_pos h1]))
          clear h1
          go_upto_region 9 with fail
          clear h1b
          have s0 := pt4 K2.out.drew
          refine wp_region_noPanic ?_
          refine wp_region_held_drew (S := (fun w' => w'.cell? ⟨w.heap.size + 1, 0, none⟩ = some (.int .i64 e) ∧ w'.cell? ⟨w.heap.size + 1, 1, none⟩ = some (.int .i64 c) ∧ w'.cell? ⟨w.heap.size + 1, 2, none⟩ = some (.int .i64 n) ∧ w'.cell? ⟨w.heap.size + 1, 3, none⟩ = some (.int .i64 f))) (by kernel_rfl) ?_ (fun hHeld => ?_)
          · ((try dsimp only) <;> (first | trivial | assumption | go_keep))
          clear s0
          replace K1 := hide K1.out.drew
          replace K2 := hide K2.out.drew
          replace K3 := hide K3.out.drew
          have R5 := hide (R4.out.below (Below.refl _ _).drew)
          generalize w5.drew = wd at *
          clear R4
          refine wpAnyH_take (i := 1) (v := ?_) (by simp only [List.getElem?_toArray, List.getElem?_cons_succ, List.getElem?_cons_zero]; rfl) (by kernel_rfl) (by kernel_rfl) (by kernel_rfl) (fun _ _ _ h => h) (Or.inl ⟨by rfl, ?_⟩) (by assumption) ?_
          rotate_left 1
          · (intro w hSw; (try dsimp only at hSw); go_simp; try with_reducible rfl)
          try simp only [Act.put, List.setIfInBounds_toArray, List.set_cons_zero, List.set_cons_succ]
          refine wpAnyH_take (i := 2) (v := ?_) (by simp only [List.getElem?_toArray, List.getElem?_cons_succ, List.getElem?_cons_zero]; rfl) (by kernel_rfl) (by kernel_rfl) (by kernel_rfl) (fun _ _ _ h => h) (Or.inl ⟨by rfl, ?_⟩) (by assumption) ?_
          rotate_left 1
          · (intro w hSw; (try dsimp only at hSw); go_simp; try with_reducible rfl)
          try simp only [Act.put, List.setIfInBounds_toArray, List.set_cons_zero, List.set_cons_succ]
          refine wpAnyH_ready (rs := [0, 3]) (by kernel_rfl) (by simp) ?_
          refine AllReadyH.cons (by simp only [List.getElem?_toArray, List.getElem?_cons_succ, List.getElem?_cons_zero]; rfl) (fun K hK => ?_) ?_
          rotate_left 1
          refine AllReadyH.cons (by simp only [List.getElem?_toArray, List.getElem?_cons_succ, List.getElem?_cons_zero]; rfl) (fun K hK => ?_) ?_
          rotate_left 1
          exact AllReadyH.nil
          · obtain ⟨c0, c1, c2, c3, -⟩ := cell4 K1.out
            go_simp
            refine hK.out _ _ ?_ (fun hHeld2 => ?_)
            · ((try dsimp only) <;> (first | trivial | assumption | go_keep))
            clear hHeld
            have hHeld := hHeld2
            clear hHeld2 hK K
            try simp only [Act.put, List.setIfInBounds_toArray, List.set_cons_zero, List.set_cons_succ]
            clear c0 c1 c2 c3
            refine wpAnyH_ready (rs := [3]) (by kernel_rfl) (by simp) ?_
            refine AllReadyH.cons (by simp only [List.getElem?_toArray, List.getElem?_cons_succ, List.getElem?_cons_zero]; rfl) (fun K hK => ?_) ?_
            rotate_left 1
            · exact AllReadyH.nil
            go_simp
            refine (renc17 e c n f wd HP.out).mono ?_; rintro r we ⟨rfl, hb⟩; replace K1 := hide (K1.out.below hb); replace K2 := hide (K2.out.below hb); replace K3 := hide (K3.out.below hb); have R6 := hide (R5.out.below hb); clear hb R5
            refine hK.out _ _ ?_ (fun hHeld2 => ?_)
            · ((try dsimp only) <;> (exact pt4 K2.out))
            clear hHeld
            have hHeld := hHeld2
            clear hHeld2 hK K
            try simp only [Act.put, List.setIfInBounds_toArray, List.set_cons_zero, List.set_cons_succ]
            refine wpAnyH_ready (rs := [4]) (by kernel_rfl) (by simp) ?_
            refine AllReadyH.cons (by simp only [List.getElem?_toArray, List.getElem?_cons_succ, List.getElem?_cons_zero]; rfl) (fun K hK => ?_) ?_
            rotate_left 1
            · exact AllReadyH.nil
            go_simp
            have C2 := rput_ans base As cs Aq cq D 2 (ptBytes e c n f) we R6.out.n.rm (Nat.le_trans HBS.out R6.out.n.bel.size) (ptBytes_length e c n f) (by have := HS.out; omega) (by have := HQ.out; omega); unfold refV at C2; refine C2.mono ?_; rintro r w6 ⟨As1, cs1, Aq1, cq1, rfl, k1⟩; have R7 := hide (R6.out.call k1); replace K1 := hide (K1.out.below k1.bel); replace K2 := hide (K2.out.below k1.bel); replace K3 := hide (K3.out.below k1.bel); clear C2 k1 R6; unfold refV
            refine hK.out _ _ ?_ (fun hHeld2 => ?_)
            · ((try dsimp only) <;> (exact pt4 K2.out))
            clear hHeld
            have hHeld := hHeld2
            clear hHeld2 hK K
            try simp only [Act.put, List.setIfInBounds_toArray, List.set_cons_zero, List.set_cons_succ]
            have NU := hide (wrtP_num D 2 (ptBytes e c n f))
            obtain ⟨E, hE⟩ : ∃ E, E = wrtP D 2 (ptBytes e c n f) := ⟨_, rfl⟩
            rw [← hE] at R7 NU ⊢
            have HW1 : Hid (W0 = if E.1 ≠ 0 then E else barP E.2) := hide (by rw [hE, HW0.un]; exact HWW.un)
            clear hE
            refine wpAnyH_take (i := 5) (v := ?_) (by simp only [List.getElem?_toArray, List.getElem?_cons_succ, List.getElem?_cons_zero]; rfl) (by kernel_rfl) (by kernel_rfl) (by kernel_rfl) (fun _ _ _ h => h) (Or.inl ⟨by rfl, ?_⟩) (by assumption) ?_
            rotate_left 1
            · (intro w hSw; (try dsimp only at hSw); go_simp; try with_reducible rfl)
            try simp only [Act.put, List.setIfInBounds_toArray, List.set_cons_zero, List.set_cons_succ]
            refine wpAnyH_take (i := 6) (v := ?_) (by simp only [List.getElem?_toArray, List.getElem?_cons_succ, List.getElem?_cons_zero]; rfl) (by kernel_rfl) (by kernel_rfl) (by kernel_rfl) (fun _ _ _ h => h) (Or.inl ⟨by rfl, ?_⟩) (by assumption) ?_
            rotate_left 1
            · (intro w hSw; (try dsimp only at hSw); go_simp; try with_reducible rfl)
            try simp only [Act.put, List.setIfInBounds_toArray, List.set_cons_zero, List.set_cons_succ]
            refine wpAnyH_take (i := 7) (v := ?_) (by simp only [List.getElem?_toArray, List.getElem?_cons_succ, List.getElem?_cons_zero]; rfl) (by kernel_rfl) (by kernel_rfl) (by kernel_rfl) (fun _ _ _ h => h) (Or.inl ⟨by rfl, ?_⟩) (by assumption) ?_
            rotate_left 1
            · (intro w hSw; (try dsimp only at hSw); go_simp; try with_reducible rfl)
            try simp only [Act.put, List.setIfInBounds_toArray, List.set_cons_zero, List.set_cons_succ]
            obtain ⟨d0, d1, d2, d3, f0, f1, f2, f3⟩ := cell4 K1.out
            refine wpAnyH_ready (rs := [8]) (by kernel_rfl) (by simp) ?_
            refine AllReadyH.cons (by simp only [List.getElem?_toArray, List.getElem?_cons_succ, List.getElem?_cons_zero]; rfl) (fun K hK => ?_) ?_
            rotate_left 1
            · exact AllReadyH.nil
            go_simp
            skip
            refine hK.out _ _ ?_ (fun hHeld2 => ?_)
            · ((try dsimp only) <;> (exact pt4 (far4D K2.out hnf.out _ _ _ _)))
            clear hHeld
            have hHeld := hHeld2
            clear hHeld2 hK K
            try simp only [Act.put, List.setIfInBounds_toArray, List.set_cons_zero, List.set_cons_succ]
            clear d0 d1 d2 d3 f0 f1 f2 f3
            obtain ⟨w7, hw7⟩ : ∃ W, W = (((w6.setCell ⟨w.heap.size, 0, none⟩ (.slice As1 E.2.sure.length cs1)).setCell ⟨w.heap.size, 1, none⟩ (.slice Aq1 E.2.queue.length cq1)).setCell ⟨w.heap.size, 2, none⟩ (.int .i64 (E.2.steps : Int))).setCell ⟨w.heap.size, 3, none⟩ (.int .i64 E.2.left) := ⟨_, rfl⟩
            have R8 : Hid (RS base w w7 As Aq As1 cs1 Aq1 cq1 E.2 w.heap.size (w.heap.size + 2)) := hide (by rw [hw7]; exact R7.out.set4 (.inl rfl) _ _ _ _)
            have L1 : Hid (Blk w7 w.heap.size 64 #[.slice As1 E.2.sure.length cs1, .slice Aq1 E.2.queue.length cq1, .int .i64 (E.2.steps : Int), .int .i64 E.2.left]) := hide (by rw [hw7]; exact set4b K1.out _ _ _ _)
            have L3 : Hid (Blk w7 (w.heap.size + 2) 64 #[.slice none 0 0, .slice none 0 0, .int .i64 0, .int .i64 0]) := hide (by rw [hw7]; exact far4D K3.out hne.out _ _ _ _)
            rw [← hw7] at hHeld ⊢
            clear hw7 R7 K1 K2 K3
            refine wpAnyH_take (i := 9) (v := ?_) (by simp only [List.getElem?_toArray, List.getElem?_cons_succ, List.getElem?_cons_zero]; rfl) (by kernel_rfl) (by kernel_rfl) (by kernel_rfl) (fun _ _ _ h => h) (Or.inl ⟨by rfl, ?_⟩) (by assumption) ?_
            rotate_left 1
            · (intro w hSw; (try dsimp only at hSw); go_simp; try with_reducible rfl)
            try simp only [Act.put, List.setIfInBounds_toArray, List.set_cons_zero, List.set_cons_succ]
            refine wpAnyH_done (by kernel_rfl) ?_ _
            refine NoPanic.normal ?_
            clear hHeld
            obtain ⟨c0, c1, c2, c3, -⟩ := cell4 L1.out
            by_cases hd : E.1 = 0
            · have hdb : (E.1 != 0) = false := by rw [hd]; rfl
              have HW : Hid (W0 = barP E.2) := hide (by rw [HW1.out, if_neg (fun h => h hd)])
              clear hd
              go_wp2_with fail
              clear c0 c1 c2 c3
              have C2 := rbar_ans base As1 cs1 Aq1 cq1 E.2 w7 R8.out.n.rm (Nat.le_trans HBS.out R8.out.n.bel.size) (by have := HS.out; have := NU.out.1; omega)
              rw [← HW.out] at C2
              unfold refV at C2
              refine C2.mono ?_
              rintro r w8 ⟨As3, cs3, Aq3, cq3, rfl, k2⟩
              have R9 := hide (R8.out.call k2)
              replace L3 := hide (L3.out.below k2.bel)
              clear C2 k2
              obtain ⟨d0, d1, d2, d3, f0, f1, f2, f3⟩ := cell4 L3.out
              unfold refV
              go_wp2_with fail
              exact ret_da rfl rfl rfl rfl (set4b L3.out _ _ _ _) ⟨As3, cs3, Aq3, cq3, rfl, (R9.out.set4 (.inr rfl) _ _ _ _).n⟩
            · have hdb : (E.1 != 0) = true := bne_iff_ne.2 hd
              have HW : Hid (W0 = E) := hide (by rw [HW1.out, if_pos hd])
              obtain ⟨d0, d1, d2, d3, f0, f1, f2, f3⟩ := cell4 L3.out
              clear hd
              go_wp2_with fail
              exact ret_da rfl rfl rfl rfl (set4b L3.out _ _ _ _) (by rw [HW.out]; exact ⟨As1, cs1, Aq1, cq1, rfl, (R8.out.set4 (.inr rfl) _ _ _ _).n⟩)
          · obtain ⟨c0, c1, c2, c3, -⟩ := cell4 K1.out
            clear c0 c1 c2 c3
            go_simp
            refine (renc17 e c n f wd HP.out).mono ?_; rintro r we ⟨rfl, hb⟩; replace K1 := hide (K1.out.below hb); replace K2 := hide (K2.out.below hb); replace K3 := hide (K3.out.below hb); have R6 := hide (R5.out.below hb); clear hb R5
            refine hK.out _ _ ?_ (fun hHeld2 => ?_)
            · ((try dsimp only) <;> (exact pt4 K2.out))
            clear hHeld
            have hHeld := hHeld2
            clear hHeld2 hK K
            try simp only [Act.put, List.setIfInBounds_toArray, List.set_cons_zero, List.set_cons_succ]
            obtain ⟨c0, c1, c2, c3, -⟩ := cell4 K1.out
            refine wpAnyH_ready (rs := [0]) (by kernel_rfl) (by simp) ?_
            refine AllReadyH.cons (by simp only [List.getElem?_toArray, List.getElem?_cons_succ, List.getElem?_cons_zero]; rfl) (fun K hK => ?_) ?_
            rotate_left 1
            · exact AllReadyH.nil
            go_simp
            refine hK.out _ _ ?_ (fun hHeld2 => ?_)
            · ((try dsimp only) <;> (first | trivial | assumption | go_keep))
            clear hHeld
            have hHeld := hHeld2
            clear hHeld2 hK K
            try simp only [Act.put, List.setIfInBounds_toArray, List.set_cons_zero, List.set_cons_succ]
            clear c0 c1 c2 c3
            refine wpAnyH_ready (rs := [4]) (by kernel_rfl) (by simp) ?_
            refine AllReadyH.cons (by simp only [List.getElem?_toArray, List.getElem?_cons_succ, List.getElem?_cons_zero]; rfl) (fun K hK => ?_) ?_
            rotate_left 1
            · exact AllReadyH.nil
            go_simp
            have C2 := rput_ans base As cs Aq cq D 2 (ptBytes e c n f) we R6.out.n.rm (Nat.le_trans HBS.out R6.out.n.bel.size) (ptBytes_length e c n f) (by have := HS.out; omega) (by have := HQ.out; omega); unfold refV at C2; refine C2.mono ?_; rintro r w6 ⟨As1, cs1, Aq1, cq1, rfl, k1⟩; have R7 := hide (R6.out.call k1); replace K1 := hide (K1.out.below k1.bel); replace K2 := hide (K2.out.below k1.bel); replace K3 := hide (K3.out.below k1.bel); clear C2 k1 R6; unfold refV
            refine hK.out _ _ ?_ (fun hHeld2 => ?_)
            · ((try dsimp only) <;> (exact pt4 K2.out))
            clear hHeld
            have hHeld := hHeld2
            clear hHeld2 hK K
            try simp only [Act.put, List.setIfInBounds_toArray, List.set_cons_zero, List.set_cons_succ]
            have NU := hide (wrtP_num D 2 (ptBytes e c n f))
            obtain ⟨E, hE⟩ : ∃ E, E = wrtP D 2 (ptBytes e c n f) := ⟨_, rfl⟩
            rw [← hE] at R7 NU ⊢
            have HW1 : Hid (W0 = if E.1 ≠ 0 then E else barP E.2) := hide (by rw [hE, HW0.un]; exact HWW.un)
            clear hE
            refine wpAnyH_take (i := 5) (v := ?_) (by simp only [List.getElem?_toArray, List.getElem?_cons_succ, List.getElem?_cons_zero]; rfl) (by kernel_rfl) (by kernel_rfl) (by kernel_rfl) (fun _ _ _ h => h) (Or.inl ⟨by rfl, ?_⟩) (by assumption) ?_
            rotate_left 1
            · (intro w hSw; (try dsimp only at hSw); go_simp; try with_reducible rfl)
            try simp only [Act.put, List.setIfInBounds_toArray, List.set_cons_zero, List.set_cons_succ]
            refine wpAnyH_take (i := 6) (v := ?_) (by simp only [List.getElem?_toArray, List.getElem?_cons_succ, List.getElem?_cons_zero]; rfl) (by kernel_rfl) (by kernel_rfl) (by kernel_rfl) (fun _ _ _ h => h) (Or.inl ⟨by rfl, ?_⟩) (by assumption) ?_
            rotate_left 1
            · (intro w hSw; (try dsimp only at hSw); go_simp; try with_reducible rfl)
            try simp only [Act.put, List.setIfInBounds_toArray, List.set_cons_zero, List.set_cons_succ]
            refine wpAnyH_take (i := 7) (v := ?_) (by simp only [List.getElem?_toArray, List.getElem?_cons_succ, List.getElem?_cons_zero]; rfl) (by kernel_rfl) (by kernel_rfl) (by kernel_rfl) (fun _ _ _ h => h) (Or.inl ⟨by rfl, ?_⟩) (by assumption) ?_
            rotate_left 1
            · (intro w hSw; (try dsimp only at hSw); go_simp; try with_reducible rfl)
            try simp only [Act.put, List.setIfInBounds_toArray, List.set_cons_zero, List.set_cons_succ]
            obtain ⟨d0, d1, d2, d3, f0, f1, f2, f3⟩ := cell4 K1.out
            refine wpAnyH_ready (rs := [8]) (by kernel_rfl) (by simp) ?_
            refine AllReadyH.cons (by simp only [List.getElem?_toArray, List.getElem?_cons_succ, List.getElem?_cons_zero]; rfl) (fun K hK => ?_) ?_
            rotate_left 1
            · exact AllReadyH.nil
            go_simp
            skip
            refine hK.out _ _ ?_ (fun hHeld2 => ?_)
            · ((try dsimp only) <;> (exact pt4 (far4D K2.out hnf.out _ _ _ _)))
            clear hHeld
            have hHeld := hHeld2
            clear hHeld2 hK K
            try simp only [Act.put, List.setIfInBounds_toArray, List.set_cons_zero, List.set_cons_succ]
            clear d0 d1 d2 d3 f0 f1 f2 f3
            obtain ⟨w7, hw7⟩ : ∃ W, W = (((w6.setCell ⟨w.heap.size, 0, none⟩ (.slice As1 E.2.sure.length cs1)).setCell ⟨w.heap.size, 1, none⟩ (.slice Aq1 E.2.queue.length cq1)).setCell ⟨w.heap.size, 2, none⟩ (.int .i64 (E.2.steps : Int))).setCell ⟨w.heap.size, 3, none⟩ (.int .i64 E.2.left) := ⟨_, rfl⟩
            have R8 : Hid (RS base w w7 As Aq As1 cs1 Aq1 cq1 E.2 w.heap.size (w.heap.size + 2)) := hide (by rw [hw7]; exact R7.out.set4 (.inl rfl) _ _ _ _)
            have L1 : Hid (Blk w7 w.heap.size 64 #[.slice As1 E.2.sure.length cs1, .slice Aq1 E.2.queue.length cq1, .int .i64 (E.2.steps : Int), .int .i64 E.2.left]) := hide (by rw [hw7]; exact set4b K1.out _ _ _ _)
            have L3 : Hid (Blk w7 (w.heap.size + 2) 64 #[.slice none 0 0, .slice none 0 0, .int .i64 0, .int .i64 0]) := hide (by rw [hw7]; exact far4D K3.out hne.out _ _ _ _)
            rw [← hw7] at hHeld ⊢
            clear hw7 R7 K1 K2 K3
            refine wpAnyH_take (i := 9) (v := ?_) (by simp only [List.getElem?_toArray, List.getElem?_cons_succ, List.getElem?_cons_zero]; rfl) (by kernel_rfl) (by kernel_rfl) (by kernel_rfl) (fun _ _ _ h => h) (Or.inl ⟨by rfl, ?_⟩) (by assumption) ?_
            rotate_left 1
            · (intro w hSw; (try dsimp only at hSw); go_simp; try with_reducible rfl)
            try simp only [Act.put, List.setIfInBounds_toArray, List.set_cons_zero, List.set_cons_succ]
            refine wpAnyH_done (by kernel_rfl) ?_ _
            refine NoPanic.normal ?_
            clear hHeld
            obtain ⟨c0, c1, c2, c3, -⟩ := cell4 L1.out
            by_cases hd : E.1 = 0
            · have hdb : (E.1 != 0) = false := by rw [hd]; rfl
              have HW : Hid (W0 = barP E.2) := hide (by rw [HW1.out, if_neg (fun h => h hd)])
              clear hd
              go_wp2_with fail
              clear c0 c1 c2 c3
              have C2 := rbar_ans base As1 cs1 Aq1 cq1 E.2 w7 R8.out.n.rm (Nat.le_trans HBS.out R8.out.n.bel.size) (by have := HS.out; have := NU.out.1; omega)
              rw [← HW.out] at C2
              unfold refV at C2
              refine C2.mono ?_
              rintro r w8 ⟨As3, cs3, Aq3, cq3, rfl, k2⟩
              have R9 := hide (R8.out.call k2)
              replace L3 := hide (L3.out.below k2.bel)
              clear C2 k2
              obtain ⟨d0, d1, d2, d3, f0, f1, f2, f3⟩ := cell4 L3.out
              unfold refV
              go_wp2_with fail
              exact ret_da rfl rfl rfl rfl (set4b L3.out _ _ _ _) ⟨As3, cs3, Aq3, cq3, rfl, (R9.out.set4 (.inr rfl) _ _ _ _).n⟩
            · have hdb : (E.1 != 0) = true := bne_iff_ne.2 hd
              have HW : Hid (W0 = E) := hide (by rw [HW1.out, if_pos hd])
              obtain ⟨d0, d1, d2, d3, f0, f1, f2, f3⟩ := cell4 L3.out
              clear hd
              go_wp2_with fail
              exact ret_da rfl rfl rfl rfl (set4b L3.out _ _ _ _) (by rw [HW.out]; exact ⟨As1, cs1, Aq1, cq1, rfl, (R8.out.set4 (.inr rfl) _ _ _ _).n⟩)
        · have h1b : ((cn : Int) == 1) = false := beq_eq_false_iff_ne.2 (by omega)
          have HWW := Seal.mk (saveP_go D ⟨e, c, n, f⟩ ⟨qe, qc, qn, qf⟩ cn 1 H3.out HCQ.un (fun h => by rw [HNW.out] at h; cases h.2) (by rw [if_neg h1]))
          clear h1
          go_upto_region 9 with fail
          clear h1b
          have s0 := pt4 K2.out.drew
          refine wp_region_noPanic ?_
          refine wp_region_held_drew (S := (fun w' => w'.cell? ⟨w.heap.size + 1, 0, none⟩ = some (.int .i64 e) ∧ w'.cell? ⟨w.heap.size + 1, 1, none⟩ = some (.int .i64 c) ∧ w'.cell? ⟨w.heap.size + 1, 2, none⟩ = some (.int .i64 n) ∧ w'.cell? ⟨w.heap.size + 1, 3, none⟩ = some (.int .i64 f))) (by kernel_rfl) ?_ (fun hHeld => ?_)
          · ((try dsimp only) <;> (first | trivial | assumption | go_keep))
          clear s0
          replace K1 := hide K1.out.drew
          replace K2 := hide K2.out.drew
          replace K3 := hide K3.out.drew
          have R5 := hide (R4.out.below (Below.refl _ _).drew)
          generalize w5.drew = wd at *
          clear R4
          refine wpAnyH_take (i := 1) (v := ?_) (by simp only [List.getElem?_toArray, List.getElem?_cons_succ, List.getElem?_cons_zero]; rfl) (by kernel_rfl) (by kernel_rfl) (by kernel_rfl) (fun _ _ _ h => h) (Or.inl ⟨by rfl, ?_⟩) (by assumption) ?_
          rotate_left 1
          · (intro w hSw; (try dsimp only at hSw); go_simp; try with_reducible rfl)
          try simp only [Act.put, List.setIfInBounds_toArray, List.set_cons_zero, List.set_cons_succ]
          refine wpAnyH_take (i := 2) (v := ?_) (by simp only [List.getElem?_toArray, List.getElem?_cons_succ, List.getElem?_cons_zero]; rfl) (by kernel_rfl) (by kernel_rfl) (by kernel_rfl) (fun _ _ _ h => h) (Or.inl ⟨by rfl, ?_⟩) (by assumption) ?_
          rotate_left 1
          · (intro w hSw; (try dsimp only at hSw); go_simp; try with_reducible rfl)
          try simp only [Act.put, List.setIfInBounds_toArray, List.set_cons_zero, List.set_cons_succ]
          refine wpAnyH_ready (rs := [0, 3]) (by kernel_rfl) (by simp) ?_
          refine AllReadyH.cons (by simp only [List.getElem?_toArray, List.getElem?_cons_succ, List.getElem?_cons_zero]; rfl) (fun K hK => ?_) ?_
          rotate_left 1
          refine AllReadyH.cons (by simp only [List.getElem?_toArray, List.getElem?_cons_succ, List.getElem?_cons_zero]; rfl) (fun K hK => ?_) ?_
          rotate_left 1
          exact AllReadyH.nil
          · obtain ⟨c0, c1, c2, c3, -⟩ := cell4 K1.out
            go_simp
            refine hK.out _ _ ?_ (fun hHeld2 => ?_)
            · ((try dsimp only) <;> (first | trivial | assumption | go_keep))
            clear hHeld
            have hHeld := hHeld2
            clear hHeld2 hK K
            try simp only [Act.put, List.setIfInBounds_toArray, List.set_cons_zero, List.set_cons_succ]
            clear c0 c1 c2 c3
            refine wpAnyH_ready (rs := [3]) (by kernel_rfl) (by simp) ?_
            refine AllReadyH.cons (by simp only [List.getElem?_toArray, List.getElem?_cons_succ, List.getElem?_cons_zero]; rfl) (fun K hK => ?_) ?_
            rotate_left 1
            · exact AllReadyH.nil
            go_simp
            refine (renc17 e c n f wd HP.out).mono ?_; rintro r we ⟨rfl, hb⟩; replace K1 := hide (K1.out.below hb); replace K2 := hide (K2.out.below hb); replace K3 := hide (K3.out.below hb); have R6 := hide (R5.out.below hb); clear hb R5
            refine hK.out _ _ ?_ (fun hHeld2 => ?_)
            · ((try dsimp only) <;> (exact pt4 K2.out))
            clear hHeld
            have hHeld := hHeld2
            clear hHeld2 hK K
            try simp only [Act.put, List.setIfInBounds_toArray, List.set_cons_zero, List.set_cons_succ]
            refine wpAnyH_ready (rs := [4]) (by kernel_rfl) (by simp) ?_
            refine AllReadyH.cons (by simp only [List.getElem?_toArray, List.getElem?_cons_succ, List.getElem?_cons_zero]; rfl) (fun K hK => ?_) ?_
            rotate_left 1
            · exact AllReadyH.nil
            go_simp
            have C2 := rput_ans base As cs Aq cq D 1 (ptBytes e c n f) we R6.out.n.rm (Nat.le_trans HBS.out R6.out.n.bel.size) (ptBytes_length e c n f) (by have := HS.out; omega) (by have := HQ.out; omega); unfold refV at C2; refine C2.mono ?_; rintro r w6 ⟨As1, cs1, Aq1, cq1, rfl, k1⟩; have R7 := hide (R6.out.call k1); replace K1 := hide (K1.out.below k1.bel); replace K2 := hide (K2.out.below k1.bel); replace K3 := hide (K3.out.below k1.bel); clear C2 k1 R6; unfold refV
            refine hK.out _ _ ?_ (fun hHeld2 => ?_)
            · ((try dsimp only) <;> (exact pt4 K2.out))
            clear hHeld
            have hHeld := hHeld2
            clear hHeld2 hK K
            try simp only [Act.put, List.setIfInBounds_toArray, List.set_cons_zero, List.set_cons_succ]
            have NU := hide (wrtP_num D 1 (ptBytes e c n f))
            obtain ⟨E, hE⟩ : ∃ E, E = wrtP D 1 (ptBytes e c n f) := ⟨_, rfl⟩
            rw [← hE] at R7 NU ⊢
            have HW1 : Hid (W0 = if E.1 ≠ 0 then E else barP E.2) := hide (by rw [hE, HW0.un]; exact HWW.un)
            clear hE
            refine wpAnyH_take (i := 5) (v := ?_) (by simp only [List.getElem?_toArray, List.getElem?_cons_succ, List.getElem?_cons_zero]; rfl) (by kernel_rfl) (by kernel_rfl) (by kernel_rfl) (fun _ _ _ h => h) (Or.inl ⟨by rfl, ?_⟩) (by assumption) ?_
            rotate_left 1
            · (intro w hSw; (try dsimp only at hSw); go_simp; try with_reducible rfl)
            try simp only [Act.put, List.setIfInBounds_toArray, List.set_cons_zero, List.set_cons_succ]
            refine wpAnyH_take (i := 6) (v := ?_) (by simp only [List.getElem?_toArray, List.getElem?_cons_succ, List.getElem?_cons_zero]; rfl) (by kernel_rfl) (by kernel_rfl) (by kernel_rfl) (fun _ _ _ h => h) (Or.inl ⟨by rfl, ?_⟩) (by assumption) ?_
            rotate_left 1
            · (intro w hSw; (try dsimp only at hSw); go_simp; try with_reducible rfl)
            try simp only [Act.put, List.setIfInBounds_toArray, List.set_cons_zero, List.set_cons_succ]
            refine wpAnyH_take (i := 7) (v := ?_) (by simp only [List.getElem?_toArray, List.getElem?_cons_succ, List.getElem?_cons_zero]; rfl) (by kernel_rfl) (by kernel_rfl) (by kernel_rfl) (fun _ _ _ h => h) (Or.inl ⟨by rfl, ?_⟩) (by assumption) ?_
            rotate_left 1
            · (intro w hSw; (try dsimp only at hSw); go_simp; try with_reducible rfl)
            try simp only [Act.put, List.setIfInBounds_toArray, List.set_cons_zero, List.set_cons_succ]
            obtain ⟨d0, d1, d2, d3, f0, f1, f2, f3⟩ := cell4 K1.out
            refine wpAnyH_ready (rs := [8]) (by kernel_rfl) (by simp) ?_
            refine AllReadyH.cons (by simp only [List.getElem?_toArray, List.getElem?_cons_succ, List.getElem?_cons_zero]; rfl) (fun K hK => ?_) ?_
            rotate_left 1
            · exact AllReadyH.nil
            go_simp
            skip
            refine hK.out _ _ ?_ (fun hHeld2 => ?_)
            · ((try dsimp only) <;> (exact pt4 (far4D K2.out hnf.out _ _ _ _)))
            clear hHeld
            have hHeld := hHeld2
            clear hHeld2 hK K
            try simp only [Act.put, List.setIfInBounds_toArray, List.set_cons_zero, List.set_cons_succ]
            clear d0 d1 d2 d3 f0 f1 f2 f3
            obtain ⟨w7, hw7⟩ : ∃ W, W = (((w6.setCell ⟨w.heap.size, 0, none⟩ (.slice As1 E.2.sure.length cs1)).setCell ⟨w.heap.size, 1, none⟩ (.slice Aq1 E.2.queue.length cq1)).setCell ⟨w.heap.size, 2, none⟩ (.int .i64 (E.2.steps : Int))).setCell ⟨w.heap.size, 3, none⟩ (.int .i64 E.2.left) := ⟨_, rfl⟩
            have R8 : Hid (RS base w w7 As Aq As1 cs1 Aq1 cq1 E.2 w.heap.size (w.heap.size + 2)) := hide (by rw [hw7]; exact R7.out.set4 (.inl rfl) _ _ _ _)
            have L1 : Hid (Blk w7 w.heap.size 64 #[.slice As1 E.2.sure.length cs1, .slice Aq1 E.2.queue.length cq1, .int .i64 (E.2.steps : Int), .int .i64 E.2.left]) := hide (by rw [hw7]; exact set4b K1.out _ _ _ _)
            have L3 : Hid (Blk w7 (w.heap.size + 2) 64 #[.slice none 0 0, .slice none 0 0, .int .i64 0, .int .i64 0]) := hide (by rw [hw7]; exact far4D K3.out hne.out _ _ _ _)
            rw [← hw7] at hHeld ⊢
            clear hw7 R7 K1 K2 K3
            refine wpAnyH_take (i := 9) (v := ?_) (by simp only [List.getElem?_toArray, List.getElem?_cons_succ, List.getElem?_cons_zero]; rfl) (by kernel_rfl) (by kernel_rfl) (by kernel_rfl) (fun _ _ _ h => h) (Or.inl ⟨by rfl, ?_⟩) (by assumption) ?_
            rotate_left 1
            · (intro w hSw; (try dsimp only at hSw); go_simp; try with_reducible rfl)
            try simp only [Act.put, List.setIfInBounds_toArray, List.set_cons_zero, List.set_cons_succ]
            refine wpAnyH_done (by kernel_rfl) ?_ _
            refine NoPanic.normal ?_
            clear hHeld
            obtain ⟨c0, c1, c2, c3, -⟩ := cell4 L1.out
            by_cases hd : E.1 = 0
            · have hdb : (E.1 != 0) = false := by rw [hd]; rfl
              have HW : Hid (W0 = barP E.2) := hide (by rw [HW1.out, if_neg (fun h => h hd)])
              clear hd
              go_wp2_with fail
              clear c0 c1 c2 c3
              have C2 := rbar_ans base As1 cs1 Aq1 cq1 E.2 w7 R8.out.n.rm (Nat.le_trans HBS.out R8.out.n.bel.size) (by have := HS.out; have := NU.out.1; omega)
              rw [← HW.out] at C2
              unfold refV at C2
              refine C2.mono ?_
              rintro r w8 ⟨As3, cs3, Aq3, cq3, rfl, k2⟩
              have R9 := hide (R8.out.call k2)
              replace L3 := hide (L3.out.below k2.bel)
              clear C2 k2
              obtain ⟨d0, d1, d2, d3, f0, f1, f2, f3⟩ := cell4 L3.out
              unfold refV
              go_wp2_with fail
              exact ret_da rfl rfl rfl rfl (set4b L3.out _ _ _ _) ⟨As3, cs3, Aq3, cq3, rfl, (R9.out.set4 (.inr rfl) _ _ _ _).n⟩
            · have hdb : (E.1 != 0) = true := bne_iff_ne.2 hd
              have HW : Hid (W0 = E) := hide (by rw [HW1.out, if_pos hd])
              obtain ⟨d0, d1, d2, d3, f0, f1, f2, f3⟩ := cell4 L3.out
              clear hd
              go_wp2_with fail
              exact ret_da rfl rfl rfl rfl (set4b L3.out _ _ _ _) (by rw [HW.out]; exact ⟨As1, cs1, Aq1, cq1, rfl, (R8.out.set4 (.inr rfl) _ _ _ _).n⟩)
          · obtain ⟨c0, c1, c2, c3, -⟩ := cell4 K1.out
            clear c0 c1 c2 c3
            go_simp
            refine (renc17 e c n f wd HP.out).mono ?_; rintro r we ⟨rfl, hb⟩; replace K1 := hide (K1.out.below hb); replace K2 := hide (K2.out.below hb); replace K3 := hide (K3.out.below hb); have R6 := hide (R5.out.below hb); clear hb R5
            refine hK.out _ _ ?_ (fun hHeld2 => ?_)
            · ((try dsimp only) <;> (exact pt4 K2.out))
            clear hHeld
            have hHeld := hHeld2
            clear hHeld2 hK K
            try simp only [Act.put, List.setIfInBounds_toArray, List.set_cons_zero, List.set_cons_succ]
            obtain ⟨c0, c1, c2, c3, -⟩ := cell4 K1.out
            refine wpAnyH_ready (rs := [0]) (by kernel_rfl) (by simp) ?_
            refine AllReadyH.cons (by simp only [List.getElem?_toArray, List.getElem?_cons_succ, List.getElem?_cons_zero]; rfl) (fun K hK => ?_) ?_
            rotate_left 1
            · exact AllReadyH.nil
            go_simp
            refine hK.out _ _ ?_ (fun hHeld2 => ?_)
            · ((try dsimp only) <;> (first | trivial | assumption | go_keep))
            clear hHeld
            have hHeld := hHeld2
            clear hHeld2 hK K
            try simp only [Act.put, List.setIfInBounds_toArray, List.set_cons_zero, List.set_cons_succ]
            clear c0 c1 c2 c3
            refine wpAnyH_ready (rs := [4]) (by kernel_rfl) (by simp) ?_
            refine AllReadyH.cons (by simp only [List.getElem?_toArray, List.getElem?_cons_succ, List.getElem?_cons_zero]; rfl) (fun K hK => ?_) ?_
            rotate_left 1
            · exact AllReadyH.nil
            go_simp
            have C2 := rput_ans base As cs Aq cq D 1 (ptBytes e c n f) we R6.out.n.rm (Nat.le_trans HBS.out R6.out.n.bel.size) (ptBytes_length e c n f) (by have := HS.out; omega) (by have := HQ.out; omega); unfold refV at C2; refine C2.mono ?_; rintro r w6 ⟨As1, cs1, Aq1, cq1, rfl, k1⟩; have R7 := hide (R6.out.call k1); replace K1 := hide (K1.out.below k1.bel); replace K2 := hide (K2.out.below k1.bel); replace K3 := hide (K3.out.below k1.bel); clear C2 k1 R6; unfold refV
            refine hK.out _ _ ?_ (fun hHeld2 => ?_)
            · ((try dsimp only) <;> (exact pt4 K2.out))
            clear hHeld
            have hHeld := hHeld2
            clear hHeld2 hK K
            try simp only [Act.put, List.setIfInBounds_toArray, List.set_cons_zero, List.set_cons_succ]
            have NU := hide (wrtP_num D 1 (ptBytes e c n f))
            obtain ⟨E, hE⟩ : ∃ E, E = wrtP D 1 (ptBytes e c n f) := ⟨_, rfl⟩
            rw [← hE] at R7 NU ⊢
            have HW1 : Hid (W0 = if E.1 ≠ 0 then E else barP E.2) := hide (by rw [hE, HW0.un]; exact HWW.un)
            clear hE
            refine wpAnyH_take (i := 5) (v := ?_) (by simp only [List.getElem?_toArray, List.getElem?_cons_succ, List.getElem?_cons_zero]; rfl) (by kernel_rfl) (by kernel_rfl) (by kernel_rfl) (fun _ _ _ h => h) (Or.inl ⟨by rfl, ?_⟩) (by assumption) ?_
            rotate_left 1
            · (intro w hSw; (try dsimp only at hSw); go_simp; try with_reducible rfl)
            try simp only [Act.put, List.setIfInBounds_toArray, List.set_cons_zero, List.set_cons_succ]
            refine wpAnyH_take (i := 6) (v := ?_) (by simp only [List.getElem?_toArray, List.getElem?_cons_succ, List.getElem?_cons_zero]; rfl) (by kernel_rfl) (by kernel_rfl) (by kernel_rfl) (fun _ _ _ h => h) (Or.inl ⟨by rfl, ?_⟩) (by assumption) ?_
            rotate_left 1
            · (intro w hSw; (try dsimp only at hSw); go_simp; try with_reducible rfl)
            try simp only [Act.put, List.setIfInBounds_toArray, List.set_cons_zero, List.set_cons_succ]
            refine wpAnyH_take (i := 7) (v := ?_) (by simp only [List.getElem?_toArray, List.getElem?_cons_succ, List.getElem?_cons_zero]; rfl) (by kernel_rfl) (by kernel_rfl) (by kernel_rfl) (fun _ _ _ h => h) (Or.inl ⟨by rfl, ?_⟩) (by assumption) ?_
            rotate_left 1
            · (intro w hSw; (try dsimp only at hSw); go_simp; try with_reducible rfl)
            try simp only [Act.put, List.setIfInBounds_toArray, List.set_cons_zero, List.set_cons_succ]
            obtain ⟨d0, d1, d2, d3, f0, f1, f2, f3⟩ := cell4 K1.out
            refine wpAnyH_ready (rs := [8]) (by kernel_rfl) (by simp) ?_
            refine AllReadyH.cons (by simp only [List.getElem?_toArray, List.getElem?_cons_succ, List.getElem?_cons_zero]; rfl) (fun K hK => ?_) ?_
            rotate_left 1
            · exact AllReadyH.nil
            go_simp
            skip
            refine hK.out _ _ ?_ (fun hHeld2 => ?_)
            · ((try dsimp only) <;> (exact pt4 (far4D K2.out hnf.out _ _ _ _)))
            clear hHeld
            have hHeld := hHeld2
            clear hHeld2 hK K
            try simp only [Act.put, List.setIfInBounds_toArray, List.set_cons_zero, List.set_cons_succ]
            clear d0 d1 d2 d3 f0 f1 f2 f3
            obtain ⟨w7, hw7⟩ : ∃ W, W = (((w6.setCell ⟨w.heap.size, 0, none⟩ (.slice As1 E.2.sure.length cs1)).setCell ⟨w.heap.size, 1, none⟩ (.slice Aq1 E.2.queue.length cq1)).setCell ⟨w.heap.size, 2, none⟩ (.int .i64 (E.2.steps : Int))).setCell ⟨w.heap.size, 3, none⟩ (.int .i64 E.2.left) := ⟨_, rfl⟩
            have R8 : Hid (RS base w w7 As Aq As1 cs1 Aq1 cq1 E.2 w.heap.size (w.heap.size + 2)) := hide (by rw [hw7]; exact R7.out.set4 (.inl rfl) _ _ _ _)
            have L1 : Hid (Blk w7 w.heap.size 64 #[.slice As1 E.2.sure.length cs1, .slice Aq1 E.2.queue.length cq1, .int .i64 (E.2.steps : Int), .int .i64 E.2.left]) := hide (by rw [hw7]; exact set4b K1.out _ _ _ _)
            have L3 : Hid (Blk w7 (w.heap.size + 2) 64 #[.slice none 0 0, .slice none 0 0, .int .i64 0, .int .i64 0]) := hide (by rw [hw7]; exact far4D K3.out hne.out _ _ _ _)
            rw [← hw7] at hHeld ⊢
            clear hw7 R7 K1 K2 K3
            refine wpAnyH_take (i := 9) (v := ?_) (by simp only [List.getElem?_toArray, List.getElem?_cons_succ, List.getElem?_cons_zero]; rfl) (by kernel_rfl) (by kernel_rfl) (by kernel_rfl) (fun _ _ _ h => h) (Or.inl ⟨by rfl, ?_⟩) (by assumption) ?_
            rotate_left 1
            · (intro w hSw; (try dsimp only at hSw); go_simp; try with_reducible rfl)
            try simp only [Act.put, List.setIfInBounds_toArray, List.set_cons_zero, List.set_cons_succ]
            refine wpAnyH_done (by kernel_rfl) ?_ _
            refine NoPanic.normal ?_
            clear hHeld
            obtain ⟨c0, c1, c2, c3, -⟩ := cell4 L1.out
            by_cases hd : E.1 = 0
            · have hdb : (E.1 != 0) = false := by rw [hd]; rfl
              have HW : Hid (W0 = barP E.2) := hide (by rw [HW1.out, if_neg (fun h => h hd)])
              clear hd
              go_wp2_with fail
              clear c0 c1 c2 c3
              have C2 := rbar_ans base As1 cs1 Aq1 cq1 E.2 w7 R8.out.n.rm (Nat.le_trans HBS.out R8.out.n.bel.size) (by have := HS.out; have := NU.out.1; omega)
              rw [← HW.out] at C2
              unfold refV at C2
              refine C2.mono ?_
              rintro r w8 ⟨As3, cs3, Aq3, cq3, rfl, k2⟩
              have R9 := hide (R8.out.call k2)
              replace L3 := hide (L3.out.below k2.bel)
              clear C2 k2
              obtain ⟨d0, d1, d2, d3, f0, f1, f2, f3⟩ := cell4 L3.out
              unfold refV
              go_wp2_with fail
              exact ret_da rfl rfl rfl rfl (set4b L3.out _ _ _ _) ⟨As3, cs3, Aq3, cq3, rfl, (R9.out.set4 (.inr rfl) _ _ _ _).n⟩
            · have hdb : (E.1 != 0) = true := bne_iff_ne.2 hd
              have HW : Hid (W0 = E) := hide (by rw [HW1.out, if_pos hd])
              obtain ⟨d0, d1, d2, d3, f0, f1, f2, f3⟩ := cell4 L3.out
              clear hd
              go_wp2_with fail
              exact ret_da rfl rfl rfl rfl (set4b L3.out _ _ _ _) (by rw [HW.out]; exact ⟨As1, cs1, Aq1, cq1, rfl, (R8.out.set4 (.inr rfl) _ _ _ _).n⟩)
      · rw [Bool.not_eq_true] at hn
        rw [hn]
        have HW : Hid (W0 = (103, D)) := hide (by rw [HW0.un]; exact saveP_103 D _ _ cn H3.out HCQ.un ⟨by have := H0.out; omega, hn⟩)
        clear hn
        obtain ⟨c0, c1, c2, c3, -⟩ := cell4 K1.out
        obtain ⟨d0, d1, d2, d3, f0, f1, f2, f3⟩ := cell4 K3.out
        go_wp2_with fail
        exact ret_da rfl rfl rfl rfl (set4b K3.out _ _ _ _) (by rw [HW.out]; exact ⟨As, cs, Aq, cq, rfl, (R4.out.set4 (.inr rfl) _ _ _ _).n⟩)
end Go.Proofs.Ytfaingklglelnaa
