import Derived.Test.YtfaingklglelnaaJn15
import Derived.Test.YtfaingklglelnaaJn06
import Derived.Test.YtfaingklglelnaaJn05
import Derived.Test.YtfaingklglelnaaJn03
import Derived.Deep.CutBlock
/- The walk of marllaw17.PointPlays. -/
namespace Go.Proofs.Ytfaingklglelnaa
open Go.RowKit
attribute [local go_sem ↓] Go.wp_at_zero Go.wp_at_succ

set_option maxRecDepth 100000 in
theorem pplays_no (n : Int) (A : Option Addr) (m c : Nat) (w : World) (hn : ¬ (1 ≤ n ∧ n ≤ 20)) :
    Calls Try.prog 8 #[.int .i64 n, .slice A m c] w fun e w' => e = .returned (.bool true) ∧ Below w.heap.size w w' := by
  rcases (show n < 1 ∨ 1 ≤ n by omega) with h | h
  all_goals
    try (have h4 : decide (20 < n) = true := decide_eq_true (by omega))
    try (have h5 : decide (n < 1) = false := decide_eq_false (by omega))
    try (have h5 : decide (n < 1) = true := decide_eq_true (by omega))
    clear hn h
    go_enter Try.func8, Try.ntmps8
    go_wp2_with fail
    refine (awake17 _).mono ?_
    rintro e w1 ⟨rfl, hb1⟩
    have B1 := hide hb1
    clear hb1
    go_wp2_with fail
    refine (awake17 _).mono ?_
    rintro e w2 ⟨rfl, hb2⟩
    replace B1 := hide (B1.out.trans (hb2.mono B1.out.size))
    clear hb2
    go_wp2_with fail
    go_ret
    exact ⟨rfl, B1.out⟩

theorem countsP_fit (D : Dsk) : (countsP D).2.fit := by
  have h0 : pt0.fit := ⟨by decide, by decide, by decide, by decide⟩
  have hd : ∀ (l : List UInt8) (p : Pt), decP l = some p → p.fit := fun l p h => by
    unfold decP at h
    split at h
    · rename_i hx
      injection h with h
      rw [← h]
      exact Pt.fit_of hx.2.1
    · cases h
  have hs : ∀ (i : Nat) (l : List UInt8) (st : Nat × Pt), st.2.fit → (cntStep i (decP l) st).2.fit := fun i l st h => by
    unfold cntStep
    split
    · exact h
    · rename_i p hp
      split
      · exact hd l p hp
      · exact h
  unfold countsP
  split
  · exact hs _ _ _ (hs _ _ _ h0)
  · exact h0
theorem op9 {w : World} {k : Nat} {t : TypeId} {x0 x1 x2 x3 x4 x5 x6 x7 x8 : Value} (h : Blk w k t #[x0, x1, x2, x3, x4, x5, x6, x7, x8]) :
    w.cell? ⟨k, 0, none⟩ = some x0 ∧ w.cell? ⟨k, 1, none⟩ = some x1 ∧ w.cell? ⟨k, 2, none⟩ = some x2 ∧ w.cell? ⟨k, 3, none⟩ = some x3 ∧ w.cell? ⟨k, 4, none⟩ = some x4 ∧ w.cell? ⟨k, 5, none⟩ = some x5 ∧ w.cell? ⟨k, 6, none⟩ = some x6 ∧ w.cell? ⟨k, 7, none⟩ = some x7 ∧ w.cell? ⟨k, 8, none⟩ = some x8 :=
  ⟨h.cell 0, h.cell 1, h.cell 2, h.cell 3, h.cell 4, h.cell 5, h.cell 6, h.cell 7, h.cell 8⟩
theorem op13 {w : World} {k g : Nat} {t t' : TypeId} {x0 x1 x2 x3 x4 x5 x6 x7 x8 y0 y1 y2 y3 : Value} (h : Blk w k t #[x0, x1, x2, x3, x4, x5, x6, x7, x8]) (h' : Blk w g t' #[y0, y1, y2, y3]) :
    w.cell? ⟨k, 1, none⟩ = some x1 ∧ w.cell? ⟨k, 2, none⟩ = some x2 ∧ w.cell? ⟨k, 8, none⟩ = some x8 ∧ w.cell? ⟨g, 0, none⟩ = some y0 ∧ w.cell? ⟨g, 1, none⟩ = some y1 ∧ w.cell? ⟨g, 2, none⟩ = some y2 ∧ w.cell? ⟨g, 3, none⟩ = some y3 :=
  ⟨h.cell 1, h.cell 2, h.cell 8, h'.cell 0, h'.cell 1, h'.cell 2, h'.cell 3⟩
/-- Save, of the one and of the other. -/
theorem both_save (D : Dsk) (e c n f : Int) (hs : D.steps < 900000) (hq : D.queue.length < 900000) : ∃ R : Int × Dsk, Near D R.2 ∧
    (∀ (w0 w : World) (d : Nat), LD w0 w d D → Calls Try.prog 20 #[.pointer (some ⟨d, 0, none⟩), ptV e c n f] w fun r w' => r = .returned (.int .i64 R.1) ∧ Stp w0 w w' d D R.2) ∧
    (∀ (base : Nat) (As : Option Addr) (cs : Nat) (Aq : Option Addr) (cq : Nat) (w : World), RefM w base As cs Aq cq D → base ≤ w.heap.size → Calls Try.prog 26 #[.agg (refV As cs Aq cq D), ptV e c n f] w (RefAns base w As Aq R)) := by
  by_cases hp : PtP e c n f
  · obtain ⟨e', rfl⟩ : ∃ x : Nat, e = (x : Int) := ⟨e.toNat, by unfold PtP at hp; omega⟩
    obtain ⟨c', rfl⟩ : ∃ x : Nat, c = (x : Int) := ⟨c.toNat, by unfold PtP at hp; omega⟩
    obtain ⟨n', rfl⟩ : ∃ x : Nat, n = (x : Int) := ⟨n.toNat, by unfold PtP at hp; omega⟩
    obtain ⟨f', rfl⟩ : ∃ x : Nat, f = (x : Int) := ⟨f.toNat, by unfold PtP at hp; omega⟩
    exact ⟨saveP D ⟨e', c', n', f'⟩, saveP_near D _, fun w0 w d h => save_yes w0 w d D h ⟨e', c', n', f'⟩ hp hs hq, fun base As cs Aq cq w h hb => rsave_yes base As cs Aq cq D ⟨e', c', n', f'⟩ hp w h hb hs hq⟩
  · exact ⟨(22, D), near_refl D, fun w0 w d h => save_no w0 w d D h e c n f hp, fun base As cs Aq cq w h _ => rsave_no base As cs Aq cq D e c n f hp w h⟩
theorem txt_size17 (l : List UInt8) : (txt l).size = l.length := by simp [txt, ByteArray.size]
theorem rest_cells {w : World} {g1 g2 g3 : Nat} {t1 t2 t3 : TypeId} {x0 x1 x2 x3 y0 y1 y2 y3 z0 z1 z2 z3 : Value} (h1 : Blk w g1 t1 #[x0, x1, x2, x3]) (h2 : Blk w g2 t2 #[y0, y1, y2, y3]) (h3 : Blk w g3 t3 #[z0, z1, z2, z3]) :
    w.cell? ⟨g1, 0, none⟩ = some x0 ∧ w.cell? ⟨g1, 1, none⟩ = some x1 ∧ w.cell? ⟨g1, 2, none⟩ = some x2 ∧ w.cell? ⟨g1, 3, none⟩ = some x3 ∧ w.cell? ⟨g2, 0, none⟩ = some y0 ∧ w.cell? ⟨g2, 1, none⟩ = some y1 ∧ w.cell? ⟨g2, 2, none⟩ = some y2 ∧ w.cell? ⟨g2, 3, none⟩ = some y3 ∧
      w.cell? ⟨g3, 0, none⟩ = some z0 ∧ w.cell? ⟨g3, 1, none⟩ = some z1 ∧ w.cell? ⟨g3, 2, none⟩ = some z2 ∧ w.cell? ⟨g3, 3, none⟩ = some z3 :=
  ⟨h1.cell 0, h1.cell 1, h1.cell 2, h1.cell 3, h2.cell 0, h2.cell 1, h2.cell 2, h2.cell 3, h3.cell 0, h3.cell 1, h3.cell 2, h3.cell 3⟩
set_option maxHeartbeats 8000000 in
set_option maxRecDepth 100000 in
theorem pplays_yes (n : Nat) (A : Option Addr) (m c : Nat) (os : List OpT) (w : World) (ho : OpsT w A m os) (hm : m ≤ 9223372036854775807) (h1 : 1 ≤ n) (h2 : n ≤ 20) :
    Calls Try.prog 8 #[.int .i64 (n : Int), .slice A m c] w fun e w' => e = .returned (.bool true) ∧ Below w.heap.size w w' := by
  have HO := hide ho
  clear ho
  go_enter Try.func8, Try.ntmps8
  go_wp2_with fail
  refine (awake17 _).mono ?_
  rintro e w1 ⟨rfl, hb1⟩
  have B1 := hide hb1
  clear hb1
  go_wp2_with fail
  refine (ld_new' w1 n _ rfl (by omega) (by omega)).mono ?_
  rintro e w2 ⟨d, rfl, hd⟩
  have L2 := hide hd
  clear hd
  go_wp2_with fail
  have C3 := rnew_yes n w2 (by omega) (by omega)
  refine C3.mono ?_
  rintro e w3 ⟨As, cs, rfl, hrm, hb3⟩
  have P0 := hide (PB.start B1.out L2.out hrm hb3)
  obtain ⟨D0, hD0⟩ : ∃ D, D = freshD n := ⟨_, rfl⟩
  rw [← hD0] at P0
  have hs0 : Hid (D0.steps = 0 ∧ D0.queue.length = 0 ∧ 1 ≤ D0.sure.length) := hide (by rw [hD0]; exact ⟨rfl, rfl, by show 1 ≤ (List.replicate _ _).length; rw [List.length_replicate]; omega⟩)
  rw [← hD0, refV_eq]
  have hq0 : Hid (D0.queue.length = 0) := hide hs0.out.2.1
  clear C3 hrm hb3 hD0
  rw [refV_eq] at P0
  go_wp2_with fail
  obtain ⟨g, hg⟩ : ∃ g, g = w3.heap.size := ⟨_, rfl⟩
  rw [← hg] at P0 ⊢
  clear hg
  go_loopw [5, 9] (fun x y wr => ∃ (i d : Nat) (D : Dsk) (As : Option Addr) (cs : Nat) (Aq : Option Addr) (cq : Nat), i ≤ 40 ∧ i ≤ m ∧ x = .pointer (some ⟨d, 0, none⟩) ∧ y = .int .i64 (i : Int) ∧ PB w wr g d D As cs Aq cq ∧ D.steps ≤ 3 * i ∧ D.queue.length ≤ 2 * i ∧ 1 ≤ D.sure.length) (fun _ y _ => m - (intOf y).toNat)
  case atStart => exact ⟨0, d, D0, As, cs, none, 0, by omega, by omega, rfl, rfl, P0.out, by rw [hs0.out.1]; exact Nat.le_refl _, by rw [hs0.out.2.1]; exact Nat.le_refl _, hs0.out.2.2⟩
  case round =>
    clear P0 hs0 hq0 L2
    obtain ⟨i, d, D, As, cs, Aq, cq, hi, him, rfl, rfl, h1, h2, h3, h4⟩ := hrel
    have H1 := hide h1
    have H2 := hide h2
    have H3 := hide h3
    have H4 := hide h4
    clear h1 h2 h3 h4
    by_cases hlt : i < m ∧ i < 40
    · obtain ⟨hlt, hlt6⟩ := hlt
      obtain ⟨b, off, hA, hbl, hat⟩ := HO.out.at (by omega)
      obtain ⟨⟨kind, on, sec, pe, pc, pm, pf, bA, bn, bc, bl, kA, kn, kc, keep⟩, hoa, hoc⟩ := hat i hlt
      obtain ⟨q0, q1, q2, q3, q4, q5, q6, q7, q8⟩ := opT_cells hbl hoc H1.out.pj.ld.bel
      have HOA := hide hoa
      subst hA
      clear hat hoa hoc hbl
      go_upto_block 2 with fail
      clear q0 q1 q2 q3 q4 q5 q6 q7 q8
      have Z1 := hide (H1.out.open (opT ⟨kind, on, sec, pe, pc, pm, pf, bA, bn, bc, bl, kA, kn, kc, keep⟩))
      rw [refV_eq] at Z1
      unfold opT at Z1
      obtain ⟨k, hk⟩ : ∃ k, k = wr.heap.size := ⟨_, rfl⟩
      rw [← hk] at Z1 ⊢
      clear hk
      generalize wr.alloc _ = wz at Z1 ⊢
      clear H1
      go_cut [5, 11, 12] from 44 (fun x y z wx => ∃ (d' : Nat) (D' : Dsk) (As' : Option Addr) (cs' : Nat) (Aq' : Option Addr) (cq' : Nat) (code : Int), x = .pointer (some ⟨d', 0, none⟩) ∧ y = .int .i64 code ∧ z = .int .i64 code ∧ PB w wx g d' D' As' cs' Aq' cq' ∧ Near D D')
      case first =>
        have HS := hide (show D.steps < 900000 by have := H2.out; omega)
        have HQ := hide (show D.queue.length < 900000 by have := H3.out; omega)
        by_cases k1 : kind = 1
        · subst k1
          as_aux_lemma =>
            obtain ⟨R, NR, C1, C2⟩ := both_save D pe pc pm pf HS.out HQ.out
            replace NR := hide NR
            replace C1 := hide C1
            unfold refV at C2
            replace C2 := hide (C2 w.heap.size As cs Aq cq)
            obtain ⟨x0, x1, x2, x3, x4, x5, x6, x7, x8⟩ := op9 Z1.out.bk
            go_wp2_with fail
            clear x0 x1 x2 x3 x4 x5 x6 x7 x8
            refine (C1.out w wz d Z1.out.pj.ld).mono ?_
            rintro r w5 ⟨rfl, st⟩
            replace Z1 := hide (Z1.out.stp st)
            clear st C1
            go_upto_region 15 with fail
            have s0 := op9 Z1.out.bk.drew
            refine wp_region_noPanic ?_
            refine wp_region_held_drew (S := (fun w' => w'.cell? ⟨k, 0, none⟩ = some (.int .i64 1) ∧ w'.cell? ⟨k, 1, none⟩ = some (.int .i64 on) ∧ w'.cell? ⟨k, 2, none⟩ = some (.int .i64 sec) ∧ w'.cell? ⟨k, 3, none⟩ = some (.int .i64 pe) ∧ w'.cell? ⟨k, 4, none⟩ = some (.int .i64 pc) ∧ w'.cell? ⟨k, 5, none⟩ = some (.int .i64 pm) ∧ w'.cell? ⟨k, 6, none⟩ = some (.int .i64 pf) ∧ w'.cell? ⟨k, 7, none⟩ = some (.slice bA bn bc) ∧ w'.cell? ⟨k, 8, none⟩ = some (.slice kA kn kc))) (by kernel_rfl) ?_ (fun hHeld => ?_)
            · ((try dsimp only) <;> (first | trivial | assumption | go_keep))
            clear s0
            replace Z1 := hide Z1.out.drew
            generalize w5.drew = wd at *
            refine wpAnyH_take (i := 1) (v := ?_) (by simp only [List.getElem?_toArray, List.getElem?_cons_succ, List.getElem?_cons_zero]; rfl) (by kernel_rfl) (by kernel_rfl) (by kernel_rfl) (fun _ _ _ h => h) (Or.inl ⟨by rfl, ?_⟩) (by assumption) ?_
            rotate_left 1
            · (intro w hSw; (try dsimp only at hSw); go_simp; try with_reducible rfl)
            try simp only [Act.put, List.setIfInBounds_toArray, List.set_cons_zero, List.set_cons_succ]
            refine wpAnyH_take (i := 2) (v := ?_) (by simp only [List.getElem?_toArray, List.getElem?_cons_succ, List.getElem?_cons_zero]; rfl) (by kernel_rfl) (by kernel_rfl) (by kernel_rfl) (fun _ _ _ h => h) (Or.inl ⟨by rfl, ?_⟩) (by assumption) ?_
            rotate_left 1
            · (intro w hSw; (try dsimp only at hSw); go_simp; try with_reducible rfl)
            try simp only [Act.put, List.setIfInBounds_toArray, List.set_cons_zero, List.set_cons_succ]
            refine wpAnyH_ready (rs := [0, 3]) (by kernel_rfl) (by simp) ?_
            refine AllReadyH.cons (by simp only [List.getElem?_toArray, List.getElem?_cons_succ, List.getElem?_cons_zero]; rfl) (fun K hK => ?_) ?_
            rotate_left 1
            refine AllReadyH.cons (by simp only [List.getElem?_toArray, List.getElem?_cons_succ, List.getElem?_cons_zero]; rfl) (fun K hK => ?_) ?_
            rotate_left 1
            exact AllReadyH.nil
            · obtain ⟨c0, c1, c2, c3, -⟩ := cell4 Z1.out.bg
              go_simp
              refine hK.out _ _ ?_ (fun hHeld2 => ?_)
              · ((try dsimp only) <;> (first | trivial | assumption | go_keep))
              clear hHeld
              have hHeld := hHeld2
              clear hHeld2 hK K
              try simp only [Act.put, List.setIfInBounds_toArray, List.set_cons_zero, List.set_cons_succ]
              clear c0 c1 c2 c3
              refine wpAnyH_ready (rs := [3]) (by kernel_rfl) (by simp) ?_
              refine AllReadyH.cons (by simp only [List.getElem?_toArray, List.getElem?_cons_succ, List.getElem?_cons_zero]; rfl) (fun K hK => ?_) ?_
              rotate_left 1
              · exact AllReadyH.nil
              go_simp
              refine (pref_any pe pc pm pf wd).mono ?_; rintro r we0 ⟨rfl, hb⟩; replace Z1 := hide (Z1.out.below hb); clear hb
              refine hK.out _ _ ?_ (fun hHeld2 => ?_)
              · ((try dsimp only) <;> (exact op9 Z1.out.bk))
              clear hHeld
              have hHeld := hHeld2
              clear hHeld2 hK K
              try simp only [Act.put, List.setIfInBounds_toArray, List.set_cons_zero, List.set_cons_succ]
              refine wpAnyH_ready (rs := [4]) (by kernel_rfl) (by simp) ?_
              refine AllReadyH.cons (by simp only [List.getElem?_toArray, List.getElem?_cons_succ, List.getElem?_cons_zero]; rfl) (fun K hK => ?_) ?_
              rotate_left 1
              · exact AllReadyH.nil
              go_simp
              refine (C2.out we0 Z1.out.pj.rm Z1.out.pj.ld.sz).mono ?_; rintro r we1 ⟨As1, cs1, Aq1, cq1, rfl, k1⟩; replace Z1 := hide (Z1.out.ref k1); clear k1; unfold refV
              refine hK.out _ _ ?_ (fun hHeld2 => ?_)
              · ((try dsimp only) <;> (exact op9 Z1.out.bk))
              clear hHeld
              have hHeld := hHeld2
              clear hHeld2 hK K
              try simp only [Act.put, List.setIfInBounds_toArray, List.set_cons_zero, List.set_cons_succ]
              refine wpAnyH_take (i := 5) (v := ?_) (by simp only [List.getElem?_toArray, List.getElem?_cons_succ, List.getElem?_cons_zero]; rfl) (by kernel_rfl) (by kernel_rfl) (by kernel_rfl) (fun _ _ _ h => h) (Or.inl ⟨by rfl, ?_⟩) (by assumption) ?_
              rotate_left 1
              · (intro w hSw; (try dsimp only at hSw); go_simp; try with_reducible rfl)
              try simp only [Act.put, List.setIfInBounds_toArray, List.set_cons_zero, List.set_cons_succ]
              refine wpAnyH_take (i := 6) (v := ?_) (by simp only [List.getElem?_toArray, List.getElem?_cons_succ, List.getElem?_cons_zero]; rfl) (by kernel_rfl) (by kernel_rfl) (by kernel_rfl) (fun _ _ _ h => h) (Or.inl ⟨by rfl, ?_⟩) (by assumption) ?_
              rotate_left 1
              · (intro w hSw; (try dsimp only at hSw); go_simp; try with_reducible rfl)
              try simp only [Act.put, List.setIfInBounds_toArray, List.set_cons_zero, List.set_cons_succ]
              refine wpAnyH_take (i := 7) (v := ?_) (by simp only [List.getElem?_toArray, List.getElem?_cons_succ, List.getElem?_cons_zero]; rfl) (by kernel_rfl) (by kernel_rfl) (by kernel_rfl) (fun _ _ _ h => h) (Or.inl ⟨by rfl, ?_⟩) (by assumption) ?_
              rotate_left 1
              · (intro w hSw; (try dsimp only at hSw); go_simp; try with_reducible rfl)
              try simp only [Act.put, List.setIfInBounds_toArray, List.set_cons_zero, List.set_cons_succ]
              obtain ⟨d0, d1, d2, d3, f0, f1, f2, f3⟩ := cell4 Z1.out.bg
              refine wpAnyH_ready (rs := [8]) (by kernel_rfl) (by simp) ?_
              refine AllReadyH.cons (by simp only [List.getElem?_toArray, List.getElem?_cons_succ, List.getElem?_cons_zero]; rfl) (fun K hK => ?_) ?_
              rotate_left 1
              · exact AllReadyH.nil
              go_simp
              skip
              refine hK.out _ _ ?_ (fun hHeld2 => ?_)
              · ((try dsimp only) <;> (exact op9 (far4D Z1.out.bk Z1.out.ne _ _ _ _)))
              clear hHeld
              have hHeld := hHeld2
              clear hHeld2 hK K
              try simp only [Act.put, List.setIfInBounds_toArray, List.set_cons_zero, List.set_cons_succ]
              clear d0 d1 d2 d3 f0 f1 f2 f3
              replace Z1 := hide (Z1.out.put (.slice As1 R.2.sure.length cs1) (.slice Aq1 R.2.queue.length cq1) (.int .i64 (R.2.steps : Int)) (.int .i64 R.2.left))
              generalize (((we1.setCell ⟨g, 0, none⟩ (.slice As1 R.2.sure.length cs1)).setCell ⟨g, 1, none⟩ (.slice Aq1 R.2.queue.length cq1)).setCell ⟨g, 2, none⟩ (.int .i64 (R.2.steps : Int))).setCell ⟨g, 3, none⟩ (.int .i64 R.2.left) = wf at Z1 hHeld ⊢
              refine wpAnyH_take (i := 9) (v := ?_) (by simp only [List.getElem?_toArray, List.getElem?_cons_succ, List.getElem?_cons_zero]; rfl) (by kernel_rfl) (by kernel_rfl) (by kernel_rfl) (fun _ _ _ h => h) (Or.inl ⟨by rfl, ?_⟩) (by assumption) ?_
              rotate_left 1
              · (intro w hSw; (try dsimp only at hSw); go_simp; try with_reducible rfl)
              try simp only [Act.put, List.setIfInBounds_toArray, List.set_cons_zero, List.set_cons_succ]
              refine wpAnyH_done (by kernel_rfl) ?_ _
              refine NoPanic.normal ?_
              clear hHeld
              (try go_wp2_with fail)
              go_meet
              exact ⟨_, R.2, As1, cs1, Aq1, cq1, R.1, rfl, rfl, rfl, Z1.out.close, NR.out⟩
            · skip
              go_simp
              refine (pref_any pe pc pm pf wd).mono ?_; rintro r we0 ⟨rfl, hb⟩; replace Z1 := hide (Z1.out.below hb); clear hb
              refine hK.out _ _ ?_ (fun hHeld2 => ?_)
              · ((try dsimp only) <;> (exact op9 Z1.out.bk))
              clear hHeld
              have hHeld := hHeld2
              clear hHeld2 hK K
              try simp only [Act.put, List.setIfInBounds_toArray, List.set_cons_zero, List.set_cons_succ]
              obtain ⟨c0, c1, c2, c3, -⟩ := cell4 Z1.out.bg
              refine wpAnyH_ready (rs := [0]) (by kernel_rfl) (by simp) ?_
              refine AllReadyH.cons (by simp only [List.getElem?_toArray, List.getElem?_cons_succ, List.getElem?_cons_zero]; rfl) (fun K hK => ?_) ?_
              rotate_left 1
              · exact AllReadyH.nil
              go_simp
              refine hK.out _ _ ?_ (fun hHeld2 => ?_)
              · ((try dsimp only) <;> (first | trivial | assumption | go_keep))
              clear hHeld
              have hHeld := hHeld2
              clear hHeld2 hK K
              try simp only [Act.put, List.setIfInBounds_toArray, List.set_cons_zero, List.set_cons_succ]
              clear c0 c1 c2 c3
              refine wpAnyH_ready (rs := [4]) (by kernel_rfl) (by simp) ?_
              refine AllReadyH.cons (by simp only [List.getElem?_toArray, List.getElem?_cons_succ, List.getElem?_cons_zero]; rfl) (fun K hK => ?_) ?_
              rotate_left 1
              · exact AllReadyH.nil
              go_simp
              refine (C2.out we0 Z1.out.pj.rm Z1.out.pj.ld.sz).mono ?_; rintro r we1 ⟨As1, cs1, Aq1, cq1, rfl, k1⟩; replace Z1 := hide (Z1.out.ref k1); clear k1; unfold refV
              refine hK.out _ _ ?_ (fun hHeld2 => ?_)
              · ((try dsimp only) <;> (exact op9 Z1.out.bk))
              clear hHeld
              have hHeld := hHeld2
              clear hHeld2 hK K
              try simp only [Act.put, List.setIfInBounds_toArray, List.set_cons_zero, List.set_cons_succ]
              refine wpAnyH_take (i := 5) (v := ?_) (by simp only [List.getElem?_toArray, List.getElem?_cons_succ, List.getElem?_cons_zero]; rfl) (by kernel_rfl) (by kernel_rfl) (by kernel_rfl) (fun _ _ _ h => h) (Or.inl ⟨by rfl, ?_⟩) (by assumption) ?_
              rotate_left 1
              · (intro w hSw; (try dsimp only at hSw); go_simp; try with_reducible rfl)
              try simp only [Act.put, List.setIfInBounds_toArray, List.set_cons_zero, List.set_cons_succ]
              refine wpAnyH_take (i := 6) (v := ?_) (by simp only [List.getElem?_toArray, List.getElem?_cons_succ, List.getElem?_cons_zero]; rfl) (by kernel_rfl) (by kernel_rfl) (by kernel_rfl) (fun _ _ _ h => h) (Or.inl ⟨by rfl, ?_⟩) (by assumption) ?_
              rotate_left 1
              · (intro w hSw; (try dsimp only at hSw); go_simp; try with_reducible rfl)
              try simp only [Act.put, List.setIfInBounds_toArray, List.set_cons_zero, List.set_cons_succ]
              refine wpAnyH_take (i := 7) (v := ?_) (by simp only [List.getElem?_toArray, List.getElem?_cons_succ, List.getElem?_cons_zero]; rfl) (by kernel_rfl) (by kernel_rfl) (by kernel_rfl) (fun _ _ _ h => h) (Or.inl ⟨by rfl, ?_⟩) (by assumption) ?_
              rotate_left 1
              · (intro w hSw; (try dsimp only at hSw); go_simp; try with_reducible rfl)
              try simp only [Act.put, List.setIfInBounds_toArray, List.set_cons_zero, List.set_cons_succ]
              obtain ⟨d0, d1, d2, d3, f0, f1, f2, f3⟩ := cell4 Z1.out.bg
              refine wpAnyH_ready (rs := [8]) (by kernel_rfl) (by simp) ?_
              refine AllReadyH.cons (by simp only [List.getElem?_toArray, List.getElem?_cons_succ, List.getElem?_cons_zero]; rfl) (fun K hK => ?_) ?_
              rotate_left 1
              · exact AllReadyH.nil
              go_simp
              skip
              refine hK.out _ _ ?_ (fun hHeld2 => ?_)
              · ((try dsimp only) <;> (exact op9 (far4D Z1.out.bk Z1.out.ne _ _ _ _)))
              clear hHeld
              have hHeld := hHeld2
              clear hHeld2 hK K
              try simp only [Act.put, List.setIfInBounds_toArray, List.set_cons_zero, List.set_cons_succ]
              clear d0 d1 d2 d3 f0 f1 f2 f3
              replace Z1 := hide (Z1.out.put (.slice As1 R.2.sure.length cs1) (.slice Aq1 R.2.queue.length cq1) (.int .i64 (R.2.steps : Int)) (.int .i64 R.2.left))
              generalize (((we1.setCell ⟨g, 0, none⟩ (.slice As1 R.2.sure.length cs1)).setCell ⟨g, 1, none⟩ (.slice Aq1 R.2.queue.length cq1)).setCell ⟨g, 2, none⟩ (.int .i64 (R.2.steps : Int))).setCell ⟨g, 3, none⟩ (.int .i64 R.2.left) = wf at Z1 hHeld ⊢
              refine wpAnyH_take (i := 9) (v := ?_) (by simp only [List.getElem?_toArray, List.getElem?_cons_succ, List.getElem?_cons_zero]; rfl) (by kernel_rfl) (by kernel_rfl) (by kernel_rfl) (fun _ _ _ h => h) (Or.inl ⟨by rfl, ?_⟩) (by assumption) ?_
              rotate_left 1
              · (intro w hSw; (try dsimp only at hSw); go_simp; try with_reducible rfl)
              try simp only [Act.put, List.setIfInBounds_toArray, List.set_cons_zero, List.set_cons_succ]
              refine wpAnyH_done (by kernel_rfl) ?_ _
              refine NoPanic.normal ?_
              clear hHeld
              (try go_wp2_with fail)
              go_meet
              exact ⟨_, R.2, As1, cs1, Aq1, cq1, R.1, rfl, rfl, rfl, Z1.out.close, NR.out⟩
        · have e1 : (kind == 1) = false := beq_eq_false_iff_ne.2 k1
          clear k1
          by_cases k2 : kind = 2
          · subst k2
            as_aux_lemma =>
              have NR := hide (wipeP_near D)
              have C2 := fun w' (h : RefM w' w.heap.size As cs Aq cq D) (hb : w.heap.size ≤ w'.heap.size) => rwipe_ans w.heap.size As cs Aq cq D w' h hb HS.out HQ.out
              have C1 := hide (wipe_any w wz d D Z1.out.pj.ld HS.out HQ.out)
              unfold refV at C2
              replace C2 := hide C2
              obtain ⟨R, hR⟩ : ∃ R, R = wipeP D := ⟨_, rfl⟩
              rw [← hR] at NR C1 C2
              clear hR
              go_wp2_with fail
              refine C1.out.mono ?_
              rintro r w5 ⟨rfl, st⟩
              replace Z1 := hide (Z1.out.stp st)
              clear st C1
              obtain ⟨c0, c1, c2, c3, -⟩ := cell4 Z1.out.bg
              go_wp2_with fail
              clear c0 c1 c2 c3
              refine (C2.out w5 Z1.out.pj.rm Z1.out.pj.ld.sz).mono ?_
              rintro r w6 ⟨As1, cs1, Aq1, cq1, rfl, k1⟩
              replace Z1 := hide (Z1.out.ref k1)
              clear k1
              unfold refV
              clear C2
              obtain ⟨d0, d1, d2, d3, f0, f1, f2, f3⟩ := cell4 Z1.out.bg
              go_wp2_with fail
              replace Z1 := hide (Z1.out.put (.slice As1 R.2.sure.length cs1) (.slice Aq1 R.2.queue.length cq1) (.int .i64 (R.2.steps : Int)) (.int .i64 R.2.left))
              go_meet
              exact ⟨_, R.2, As1, cs1, Aq1, cq1, R.1, rfl, rfl, rfl, Z1.out.close, NR.out⟩
          · have e2 : (kind == 2) = false := beq_eq_false_iff_ne.2 k2
            clear k2
            by_cases k3 : kind = 3
            · subst k3
              as_aux_lemma =>
                have NR := hide (armP_near D on)
                have C2 := fun w' (h : RefM w' w.heap.size As cs Aq cq D) (_ : w.heap.size ≤ w'.heap.size) => rarm_ans w.heap.size As cs Aq cq D on w' h HOA.out.n.2
                have C1 := hide (arm_stp Z1.out.pj.ld on HOA.out.n.2)
                unfold refV at C2
                replace C2 := hide C2
                obtain ⟨R, hR⟩ : ∃ R, R = armP D on := ⟨_, rfl⟩
                rw [← hR] at NR C1 C2
                clear hR
                have x1 := Z1.out.bk.cell 1
                go_wp2_with fail
                clear x1
                refine C1.out.mono ?_
                rintro r w5 ⟨rfl, st⟩
                replace Z1 := hide (Z1.out.stp st)
                clear st C1
                have x1 := Z1.out.bk.cell 1
                obtain ⟨c0, c1, c2, c3, -⟩ := cell4 Z1.out.bg
                go_wp2_with fail
                clear c0 c1 c2 c3 x1
                refine (C2.out w5 Z1.out.pj.rm Z1.out.pj.ld.sz).mono ?_
                rintro r w6 ⟨As1, cs1, Aq1, cq1, rfl, k1⟩
                replace Z1 := hide (Z1.out.ref k1)
                clear k1
                unfold refV
                clear C2
                obtain ⟨d0, d1, d2, d3, f0, f1, f2, f3⟩ := cell4 Z1.out.bg
                go_wp2_with fail
                replace Z1 := hide (Z1.out.put (.slice As1 R.2.sure.length cs1) (.slice Aq1 R.2.queue.length cq1) (.int .i64 (R.2.steps : Int)) (.int .i64 R.2.left))
                go_meet
                exact ⟨_, R.2, As1, cs1, Aq1, cq1, R.1, rfl, rfl, rfl, Z1.out.close, NR.out⟩
            · have e3 : (kind == 3) = false := beq_eq_false_iff_ne.2 k3
              clear k3
              by_cases k4 : kind = 4
              · subst k4
                as_aux_lemma =>
                  go_upto_region 23 with fail
                  have s0 := op13 Z1.out.bk.drew Z1.out.bg.drew
                  refine wp_region_noPanic ?_
                  refine wp_region_last (n := 17) (S := (fun w' => w'.cell? ⟨k, 1, none⟩ = some (.int .i64 on) ∧ w'.cell? ⟨k, 2, none⟩ = some (.int .i64 sec) ∧ w'.cell? ⟨k, 8, none⟩ = some (.slice kA kn kc) ∧ w'.cell? ⟨g, 0, none⟩ = some (.slice As D.sure.length cs) ∧ w'.cell? ⟨g, 1, none⟩ = some (.slice Aq D.queue.length cq) ∧ w'.cell? ⟨g, 2, none⟩ = some (.int .i64 (D.steps : Int)) ∧ w'.cell? ⟨g, 3, none⟩ = some (.int .i64 D.left))) (by kernel_rfl) (by rfl) (by kernel_rfl) ?_ (fun hHeld => ?_)
                  · ((try dsimp only) <;> (first | trivial | assumption | go_keep))
                  clear s0
                  replace Z1 := hide Z1.out.drew
                  generalize wz.drew = wd at *
                  refine wpAnyH_take (i := 0) (v := ?_) (by simp only [List.getElem?_toArray, List.getElem?_cons_succ, List.getElem?_cons_zero]; rfl) (by kernel_rfl) (by kernel_rfl) (by kernel_rfl) (fun _ _ _ h => h) (Or.inl ⟨by rfl, ?_⟩) (by assumption) ?_
                  rotate_left 1
                  · (intro w hSw; (try dsimp only at hSw); go_simp; try with_reducible rfl)
                  try simp only [Act.put, List.setIfInBounds_toArray, List.set_cons_zero, List.set_cons_succ]
                  refine wpAnyH_take (i := 1) (v := ?_) (by simp only [List.getElem?_toArray, List.getElem?_cons_succ, List.getElem?_cons_zero]; rfl) (by kernel_rfl) (by kernel_rfl) (by kernel_rfl) (fun _ _ _ h => h) (Or.inl ⟨by rfl, ?_⟩) (by assumption) ?_
                  rotate_left 1
                  · (intro w hSw; (try dsimp only at hSw); go_simp; try with_reducible rfl)
                  try simp only [Act.put, List.setIfInBounds_toArray, List.set_cons_zero, List.set_cons_succ]
                  refine wpAnyH_take (i := 2) (v := ?_) (by simp only [List.getElem?_toArray, List.getElem?_cons_succ, List.getElem?_cons_zero]; rfl) (by kernel_rfl) (by kernel_rfl) (by kernel_rfl) (fun _ _ _ h => h) (Or.inl ⟨by rfl, ?_⟩) (by assumption) ?_
                  rotate_left 1
                  · (intro w hSw; (try dsimp only at hSw); go_simp; try with_reducible rfl)
                  try simp only [Act.put, List.setIfInBounds_toArray, List.set_cons_zero, List.set_cons_succ]
                  refine wpAnyH_take (i := 3) (v := ?_) (by simp only [List.getElem?_toArray, List.getElem?_cons_succ, List.getElem?_cons_zero]; rfl) (by kernel_rfl) (by kernel_rfl) (by kernel_rfl) (fun _ _ _ h => h) (Or.inl ⟨by rfl, ?_⟩) (by assumption) ?_
                  rotate_left 1
                  · (intro w hSw; (try dsimp only at hSw); go_simp; try with_reducible rfl)
                  try simp only [Act.put, List.setIfInBounds_toArray, List.set_cons_zero, List.set_cons_succ]
                  refine wpAnyH_take (i := 4) (v := ?_) (by simp only [List.getElem?_toArray, List.getElem?_cons_succ, List.getElem?_cons_zero]; rfl) (by kernel_rfl) (by kernel_rfl) (by kernel_rfl) (fun _ _ _ h => h) (Or.inl ⟨by rfl, ?_⟩) (by assumption) ?_
                  rotate_left 1
                  · (intro w hSw; (try dsimp only at hSw); go_simp; try with_reducible rfl)
                  try simp only [Act.put, List.setIfInBounds_toArray, List.set_cons_zero, List.set_cons_succ]
                  refine wpAnyH_take (i := 5) (v := ?_) (by simp only [List.getElem?_toArray, List.getElem?_cons_succ, List.getElem?_cons_zero]; rfl) (by kernel_rfl) (by kernel_rfl) (by kernel_rfl) (fun _ _ _ h => h) (Or.inl ⟨by rfl, ?_⟩) (by assumption) ?_
                  rotate_left 1
                  · (intro w hSw; (try dsimp only at hSw); go_simp; try with_reducible rfl)
                  try simp only [Act.put, List.setIfInBounds_toArray, List.set_cons_zero, List.set_cons_succ]
                  refine wpAnyH_take (i := 6) (v := ?_) (by simp only [List.getElem?_toArray, List.getElem?_cons_succ, List.getElem?_cons_zero]; rfl) (by kernel_rfl) (by kernel_rfl) (by kernel_rfl) (fun _ _ _ h => h) (Or.inl ⟨by rfl, ?_⟩) (by assumption) ?_
                  rotate_left 1
                  · (intro w hSw; (try dsimp only at hSw); go_simp; try with_reducible rfl)
                  try simp only [Act.put, List.setIfInBounds_toArray, List.set_cons_zero, List.set_cons_succ]
                  refine wpAnyH_take (i := 8) (v := ?_) (by simp only [List.getElem?_toArray, List.getElem?_cons_succ, List.getElem?_cons_zero]; rfl) (by kernel_rfl) (by kernel_rfl) (by kernel_rfl) (fun _ _ _ h => h) (Or.inl ⟨by rfl, ?_⟩) (by assumption) ?_
                  rotate_left 1
                  · (intro w hSw; (try dsimp only at hSw); go_simp; try with_reducible rfl)
                  try simp only [Act.put, List.setIfInBounds_toArray, List.set_cons_zero, List.set_cons_succ]
                  refine wpAnyH_take (i := 9) (v := ?_) (by simp only [List.getElem?_toArray, List.getElem?_cons_succ, List.getElem?_cons_zero]; rfl) (by kernel_rfl) (by kernel_rfl) (by kernel_rfl) (fun _ _ _ h => h) (Or.inl ⟨by rfl, ?_⟩) (by assumption) ?_
                  rotate_left 1
                  · (intro w hSw; (try dsimp only at hSw); go_simp; try with_reducible rfl)
                  try simp only [Act.put, List.setIfInBounds_toArray, List.set_cons_zero, List.set_cons_succ]
                  refine wpAnyH_take (i := 10) (v := ?_) (by simp only [List.getElem?_toArray, List.getElem?_cons_succ, List.getElem?_cons_zero]; rfl) (by kernel_rfl) (by kernel_rfl) (by kernel_rfl) (fun _ _ _ h => h) (Or.inl ⟨by rfl, ?_⟩) (by assumption) ?_
                  rotate_left 1
                  · (intro w hSw; (try dsimp only at hSw); go_simp; try with_reducible rfl)
                  try simp only [Act.put, List.setIfInBounds_toArray, List.set_cons_zero, List.set_cons_succ]
                  refine wpAnyH_take (i := 11) (v := ?_) (by simp only [List.getElem?_toArray, List.getElem?_cons_succ, List.getElem?_cons_zero]; rfl) (by kernel_rfl) (by kernel_rfl) (by kernel_rfl) (fun _ _ _ h => h) (Or.inl ⟨by rfl, ?_⟩) (by assumption) ?_
                  rotate_left 1
                  · (intro w hSw; (try dsimp only at hSw); go_simp; try with_reducible rfl)
                  try simp only [Act.put, List.setIfInBounds_toArray, List.set_cons_zero, List.set_cons_succ]
                  refine wpAnyH_take (i := 12) (v := ?_) (by simp only [List.getElem?_toArray, List.getElem?_cons_succ, List.getElem?_cons_zero]; rfl) (by kernel_rfl) (by kernel_rfl) (by kernel_rfl) (fun _ _ _ h => h) (Or.inl ⟨by rfl, ?_⟩) (by assumption) ?_
                  rotate_left 1
                  · (intro w hSw; (try dsimp only at hSw); go_simp; try with_reducible rfl)
                  try simp only [Act.put, List.setIfInBounds_toArray, List.set_cons_zero, List.set_cons_succ]
                  refine wpAnyH_take (i := 13) (v := ?_) (by simp only [List.getElem?_toArray, List.getElem?_cons_succ, List.getElem?_cons_zero]; rfl) (by kernel_rfl) (by kernel_rfl) (by kernel_rfl) (fun _ _ _ h => h) (Or.inl ⟨by rfl, ?_⟩) (by assumption) ?_
                  rotate_left 1
                  · (intro w hSw; (try dsimp only at hSw); go_simp; try with_reducible rfl)
                  try simp only [Act.put, List.setIfInBounds_toArray, List.set_cons_zero, List.set_cons_succ]
                  refine wpAnyH_take (i := 14) (v := ?_) (by simp only [List.getElem?_toArray, List.getElem?_cons_succ, List.getElem?_cons_zero]; rfl) (by kernel_rfl) (by kernel_rfl) (by kernel_rfl) (fun _ _ _ h => h) (Or.inl ⟨by rfl, ?_⟩) (by assumption) ?_
                  rotate_left 1
                  · (intro w hSw; (try dsimp only at hSw); go_simp; try with_reducible rfl)
                  try simp only [Act.put, List.setIfInBounds_toArray, List.set_cons_zero, List.set_cons_succ]
                  have OKD := hide Z1.out.pj.ld.ok
                  refine wpAnyH_ready (rs := [7]) (by kernel_rfl) (by simp) ?_
                  refine AllReadyH.cons (by simp only [List.getElem?_toArray, List.getElem?_cons_succ, List.getElem?_cons_zero]; rfl) (fun K hK => ?_) ?_
                  rotate_left 1
                  · exact AllReadyH.nil
                  go_simp
                  refine (ld_crash Z1.out.pj.ld H4.out w.heap.size kA kn kc keep (HOA.out.below Z1.out.pj.ld.bel).keep Z1.out.pj.ld.sz HOA.out.kc on sec).mono ?_; rintro r we ⟨d2, cap, pad, rfl, hc⟩; replace Z1 := hide (Z1.out.crash hc); clear hc
                  refine hK.out _ _ ?_ (fun hHeld2 => ?_)
                  · ((try dsimp only) <;> (exact op13 Z1.out.bk Z1.out.bg))
                  clear hHeld
                  have hHeld := hHeld2
                  clear hHeld2 hK K
                  try simp only [Act.put, List.setIfInBounds_toArray, List.set_cons_zero, List.set_cons_succ]
                  have C9 := rcrash_any we w.heap.size As cs Aq cq D Z1.out.pj.rm Z1.out.pj.ld.sz w.heap.size kA kn kc keep (HOA.out.below Z1.out.pj.ld.bel).keep Z1.out.pj.ld.sz HOA.out.kc on sec cap pad
                  have NR := hide (crash_near OKD.out (crashF keep on sec) cap pad)
                  obtain ⟨C, hC⟩ : ∃ C, C = D.crashed (crashF keep on sec) cap pad := ⟨_, rfl⟩
                  rw [← hC] at Z1 C9 NR
                  clear hC
                  unfold refV at C9
                  refine wpAnyH_ready (rs := [15]) (by kernel_rfl) (by simp) ?_
                  refine AllReadyH.cons (by simp only [List.getElem?_toArray, List.getElem?_cons_succ, List.getElem?_cons_zero]; rfl) (fun K hK => ?_) ?_
                  rotate_left 1
                  · exact AllReadyH.nil
                  go_simp
                  refine C9.mono ?_; rintro r wf ⟨As1, cs1, rfl, hrm, hb, hfr⟩; replace Z1 := hide (Z1.out.ref ⟨hrm, hb, fun _ h => .inl (hfr _ h), fun _ h => by cases h⟩); clear hrm hb hfr C9
                  refine hK.out _ _ ?_ (fun hHeld2 => ?_)
                  · ((try dsimp only) <;> (exact op13 Z1.out.bk Z1.out.bg))
                  clear hHeld
                  have hHeld := hHeld2
                  clear hHeld2 hK K
                  try simp only [Act.put, List.setIfInBounds_toArray, List.set_cons_zero, List.set_cons_succ]
                  refine wpAnyH_take (i := 16) (v := ?_) (by simp only [List.getElem?_toArray, List.getElem?_cons_succ, List.getElem?_cons_zero]; rfl) (by kernel_rfl) (by kernel_rfl) (by kernel_rfl) (fun _ _ _ h => h) (Or.inl ⟨by rfl, ?_⟩) (by assumption) ?_
                  rotate_left 1
                  · (intro w hSw; (try dsimp only at hSw); go_simp; try with_reducible rfl)
                  try simp only [Act.put, List.setIfInBounds_toArray, List.set_cons_zero, List.set_cons_succ]
                  obtain ⟨d0, d1, d2', d3, f0, f1, f2, f3⟩ := cell4 Z1.out.bg
                  refine wpAnyH_done (by kernel_rfl) ?_ _
                  refine LastQ.step (by simp only [List.getElem?_toArray, List.getElem?_cons_succ, List.getElem?_cons_zero]; rfl) (by rfl) ?_
                  go_simp
                  refine NoPanic.normal ?_
                  clear d0 d1 d2' d3 f0 f1 f2 f3
                  replace Z1 := hide (Z1.out.put (.slice As1 C.sure.length cs1) (.slice none C.queue.length 0) (.int .i64 (C.steps : Int)) (.int .i64 C.left))
                  generalize (((wf.setCell ⟨g, 0, none⟩ _).setCell ⟨g, 1, none⟩ _).setCell ⟨g, 2, none⟩ _).setCell ⟨g, 3, none⟩ _ = wg at Z1 ⊢
                  clear hHeld
                  go_wp2_with fail
                  go_meet
                  exact ⟨_, C, As1, cs1, none, 0, 0, rfl, rfl, rfl, Z1.out.close, NR.out⟩
              · have e4 : (kind == 4) = false := beq_eq_false_iff_ne.2 k4
                clear k4
                by_cases k5 : kind = 5
                · subst k5
                  as_aux_lemma =>
                    have NR := hide (wrtP_near D on (round64 bl))
                    have C2 := fun w' (h : RefM w' w.heap.size As cs Aq cq D) (hb : w.heap.size ≤ w'.heap.size) => rput_ans w.heap.size As cs Aq cq D on (round64 bl) w' h hb (round64_len bl) (by have := HS.out; omega) (by have := HQ.out; omega)
                    have C1 := hide (fun w' d (h : LD w w' d D) g cs (hg : Blk w' g 5 cs) hcs (hgd : g ≠ d) => wr_stp h on g 64 _ (round64 bl) cs (by have := HS.out; omega) (by have := HQ.out; omega) (round64_len bl) (by decide) hg hcs hgd)
                    unfold refV at C2
                    replace C2 := hide C2
                    obtain ⟨R, hR⟩ : ∃ R, R = wrtP D on (round64 bl) := ⟨_, rfl⟩
                    rw [← hR] at NR
                    simp only [← hR] at C1 C2
                    clear hR
                    go_upto_region 27 with fail
                    have s0 := op9 Z1.out.bk.drew
                    refine wp_region_noPanic ?_
                    refine wp_region_held_drew (S := (fun w' => w'.cell? ⟨k, 0, none⟩ = some (.int .i64 5) ∧ w'.cell? ⟨k, 1, none⟩ = some (.int .i64 on) ∧ w'.cell? ⟨k, 2, none⟩ = some (.int .i64 sec) ∧ w'.cell? ⟨k, 3, none⟩ = some (.int .i64 pe) ∧ w'.cell? ⟨k, 4, none⟩ = some (.int .i64 pc) ∧ w'.cell? ⟨k, 5, none⟩ = some (.int .i64 pm) ∧ w'.cell? ⟨k, 6, none⟩ = some (.int .i64 pf) ∧ w'.cell? ⟨k, 7, none⟩ = some (.slice bA bn bc) ∧ w'.cell? ⟨k, 8, none⟩ = some (.slice kA kn kc))) (by kernel_rfl) ?_ (fun hHeld => ?_)
                    · ((try dsimp only) <;> (first | trivial | assumption | go_keep))
                    clear s0
                    replace Z1 := hide Z1.out.drew
                    generalize wz.drew = wd at *
                    refine wpAnyH_take (i := 0) (v := ?_) (by simp only [List.getElem?_toArray, List.getElem?_cons_succ, List.getElem?_cons_zero]; rfl) (by kernel_rfl) (by kernel_rfl) (by kernel_rfl) (fun _ _ _ h => h) (Or.inl ⟨by rfl, ?_⟩) (by assumption) ?_
                    rotate_left 1
                    · (intro w hSw; (try dsimp only at hSw); go_simp; try with_reducible rfl)
                    try simp only [Act.put, List.setIfInBounds_toArray, List.set_cons_zero, List.set_cons_succ]
                    refine wpAnyH_take (i := 1) (v := ?_) (by simp only [List.getElem?_toArray, List.getElem?_cons_succ, List.getElem?_cons_zero]; rfl) (by kernel_rfl) (by kernel_rfl) (by kernel_rfl) (fun _ _ _ h => h) (Or.inl ⟨by rfl, ?_⟩) (by assumption) ?_
                    rotate_left 1
                    · (intro w hSw; (try dsimp only at hSw); go_simp; try with_reducible rfl)
                    try simp only [Act.put, List.setIfInBounds_toArray, List.set_cons_zero, List.set_cons_succ]
                    refine wpAnyH_take (i := 2) (v := ?_) (by simp only [List.getElem?_toArray, List.getElem?_cons_succ, List.getElem?_cons_zero]; rfl) (by kernel_rfl) (by kernel_rfl) (by kernel_rfl) (fun _ _ _ h => h) (Or.inl ⟨by rfl, ?_⟩) (by assumption) ?_
                    rotate_left 1
                    · (intro w hSw; (try dsimp only at hSw); go_simp; try with_reducible rfl)
                    try simp only [Act.put, List.setIfInBounds_toArray, List.set_cons_zero, List.set_cons_succ]
                    refine wpAnyH_take (i := 3) (v := ?_) (by simp only [List.getElem?_toArray, List.getElem?_cons_succ, List.getElem?_cons_zero]; rfl) (by kernel_rfl) (by kernel_rfl) (by kernel_rfl) (fun _ _ _ h => h) (Or.inl ⟨by rfl, ?_⟩) (by assumption) ?_
                    rotate_left 1
                    · (intro w hSw; (try dsimp only at hSw); go_simp; try with_reducible rfl)
                    try simp only [Act.put, List.setIfInBounds_toArray, List.set_cons_zero, List.set_cons_succ]
                    refine wpAnyH_take (i := 4) (v := ?_) (by simp only [List.getElem?_toArray, List.getElem?_cons_succ, List.getElem?_cons_zero]; rfl) (by kernel_rfl) (by kernel_rfl) (by kernel_rfl) (fun _ _ _ h => h) (Or.inl ⟨by rfl, ?_⟩) (by assumption) ?_
                    rotate_left 1
                    · (intro w hSw; (try dsimp only at hSw); go_simp; try with_reducible rfl)
                    try simp only [Act.put, List.setIfInBounds_toArray, List.set_cons_zero, List.set_cons_succ]
                    refine wpAnyH_ready (rs := [5]) (by kernel_rfl) (by simp) ?_
                    refine AllReadyH.cons (by simp only [List.getElem?_toArray, List.getElem?_cons_succ, List.getElem?_cons_zero]; rfl) (fun K hK => ?_) ?_
                    rotate_left 1
                    · exact AllReadyH.nil
                    go_simp
                    refine (ld_bytes wd w.heap.size bA bn bc bl (HOA.out.below Z1.out.pj.ld.bel).b Z1.out.pj.ld.sz HOA.out.bc).mono ?_; rintro r wb ⟨gb, rfl, hgb, hbk, hbl⟩; have G6 := hide hbk; have hgd := hide (show gb ≠ d by have := Z1.out.pj.ld.lt; exact fun e => by omega); replace Z1 := hide (Z1.out.below hbl); clear hbk hbl hgb
                    refine hK.out _ _ ?_ (fun hHeld2 => ?_)
                    · ((try dsimp only) <;> (exact op9 Z1.out.bk))
                    clear hHeld
                    have hHeld := hHeld2
                    clear hHeld2 hK K
                    try simp only [Act.put, List.setIfInBounds_toArray, List.set_cons_zero, List.set_cons_succ]
                    refine wpAnyH_ready (rs := [6]) (by kernel_rfl) (by simp) ?_
                    refine AllReadyH.cons (by simp only [List.getElem?_toArray, List.getElem?_cons_succ, List.getElem?_cons_zero]; rfl) (fun K hK => ?_) ?_
                    rotate_left 1
                    · exact AllReadyH.nil
                    go_simp
                    refine (C1.out wb _ Z1.out.pj.ld gb _ G6.out u8s_at hgd.out).mono ?_; rintro r wc2 ⟨rfl, st⟩; replace Z1 := hide (Z1.out.stp st); clear st C1 G6 hgd
                    refine hK.out _ _ ?_ (fun hHeld2 => ?_)
                    · ((try dsimp only) <;> (exact op9 Z1.out.bk))
                    clear hHeld
                    have hHeld := hHeld2
                    clear hHeld2 hK K
                    try simp only [Act.put, List.setIfInBounds_toArray, List.set_cons_zero, List.set_cons_succ]
                    refine wpAnyH_take (i := 7) (v := ?_) (by simp only [List.getElem?_toArray, List.getElem?_cons_succ, List.getElem?_cons_zero]; rfl) (by kernel_rfl) (by kernel_rfl) (by kernel_rfl) (fun _ _ _ h => h) (Or.inl ⟨by rfl, ?_⟩) (by assumption) ?_
                    rotate_left 1
                    · (intro w hSw; (try dsimp only at hSw); go_simp; try with_reducible rfl)
                    try simp only [Act.put, List.setIfInBounds_toArray, List.set_cons_zero, List.set_cons_succ]
                    refine wpAnyH_done (by kernel_rfl) ?_ _
                    refine NoPanic.normal ?_
                    clear hHeld
                    go_upto_region 28 with fail
                    have s0 := op9 Z1.out.bk.drew
                    refine wp_region_noPanic ?_
                    refine wp_region_held_drew (S := (fun w' => w'.cell? ⟨k, 0, none⟩ = some (.int .i64 5) ∧ w'.cell? ⟨k, 1, none⟩ = some (.int .i64 on) ∧ w'.cell? ⟨k, 2, none⟩ = some (.int .i64 sec) ∧ w'.cell? ⟨k, 3, none⟩ = some (.int .i64 pe) ∧ w'.cell? ⟨k, 4, none⟩ = some (.int .i64 pc) ∧ w'.cell? ⟨k, 5, none⟩ = some (.int .i64 pm) ∧ w'.cell? ⟨k, 6, none⟩ = some (.int .i64 pf) ∧ w'.cell? ⟨k, 7, none⟩ = some (.slice bA bn bc) ∧ w'.cell? ⟨k, 8, none⟩ = some (.slice kA kn kc))) (by kernel_rfl) ?_ (fun hHeld => ?_)
                    · ((try dsimp only) <;> (first | trivial | assumption | go_keep))
                    clear s0
                    replace Z1 := hide Z1.out.drew
                    generalize wc2.drew = wd at *
                    refine wpAnyH_take (i := 1) (v := ?_) (by simp only [List.getElem?_toArray, List.getElem?_cons_succ, List.getElem?_cons_zero]; rfl) (by kernel_rfl) (by kernel_rfl) (by kernel_rfl) (fun _ _ _ h => h) (Or.inl ⟨by rfl, ?_⟩) (by assumption) ?_
                    rotate_left 1
                    · (intro w hSw; (try dsimp only at hSw); go_simp; try with_reducible rfl)
                    try simp only [Act.put, List.setIfInBounds_toArray, List.set_cons_zero, List.set_cons_succ]
                    refine wpAnyH_take (i := 2) (v := ?_) (by simp only [List.getElem?_toArray, List.getElem?_cons_succ, List.getElem?_cons_zero]; rfl) (by kernel_rfl) (by kernel_rfl) (by kernel_rfl) (fun _ _ _ h => h) (Or.inl ⟨by rfl, ?_⟩) (by assumption) ?_
                    rotate_left 1
                    · (intro w hSw; (try dsimp only at hSw); go_simp; try with_reducible rfl)
                    try simp only [Act.put, List.setIfInBounds_toArray, List.set_cons_zero, List.set_cons_succ]
                    refine wpAnyH_take (i := 3) (v := ?_) (by simp only [List.getElem?_toArray, List.getElem?_cons_succ, List.getElem?_cons_zero]; rfl) (by kernel_rfl) (by kernel_rfl) (by kernel_rfl) (fun _ _ _ h => h) (Or.inl ⟨by rfl, ?_⟩) (by assumption) ?_
                    rotate_left 1
                    · (intro w hSw; (try dsimp only at hSw); go_simp; try with_reducible rfl)
                    try simp only [Act.put, List.setIfInBounds_toArray, List.set_cons_zero, List.set_cons_succ]
                    refine wpAnyH_take (i := 4) (v := ?_) (by simp only [List.getElem?_toArray, List.getElem?_cons_succ, List.getElem?_cons_zero]; rfl) (by kernel_rfl) (by kernel_rfl) (by kernel_rfl) (fun _ _ _ h => h) (Or.inl ⟨by rfl, ?_⟩) (by assumption) ?_
                    rotate_left 1
                    · (intro w hSw; (try dsimp only at hSw); go_simp; try with_reducible rfl)
                    try simp only [Act.put, List.setIfInBounds_toArray, List.set_cons_zero, List.set_cons_succ]
                    refine wpAnyH_ready (rs := [0, 5]) (by kernel_rfl) (by simp) ?_
                    refine AllReadyH.cons (by simp only [List.getElem?_toArray, List.getElem?_cons_succ, List.getElem?_cons_zero]; rfl) (fun K hK => ?_) ?_
                    rotate_left 1
                    refine AllReadyH.cons (by simp only [List.getElem?_toArray, List.getElem?_cons_succ, List.getElem?_cons_zero]; rfl) (fun K hK => ?_) ?_
                    rotate_left 1
                    exact AllReadyH.nil
                    · obtain ⟨c0, c1, c2, c3, -⟩ := cell4 Z1.out.bg
                      go_simp
                      refine hK.out _ _ ?_ (fun hHeld2 => ?_)
                      · ((try dsimp only) <;> (first | trivial | assumption | go_keep))
                      clear hHeld
                      have hHeld := hHeld2
                      clear hHeld2 hK K
                      try simp only [Act.put, List.setIfInBounds_toArray, List.set_cons_zero, List.set_cons_succ]
                      clear c0 c1 c2 c3
                      refine wpAnyH_ready (rs := [5]) (by kernel_rfl) (by simp) ?_
                      refine AllReadyH.cons (by simp only [List.getElem?_toArray, List.getElem?_cons_succ, List.getElem?_cons_zero]; rfl) (fun K hK => ?_) ?_
                      rotate_left 1
                      · exact AllReadyH.nil
                      go_simp
                      refine (ld_bytes wd w.heap.size bA bn bc bl (HOA.out.below Z1.out.pj.ld.bel).b Z1.out.pj.ld.sz HOA.out.bc).mono ?_; rintro r we0 ⟨gb, rfl, hgb, hbk, hbl⟩; have G6 := hide hbk; have hgd := hide (show gb ≠ d by have := Z1.out.pj.ld.lt; exact fun e => by omega); replace Z1 := hide (Z1.out.below hbl); clear hbk hbl hgb
                      refine hK.out _ _ ?_ (fun hHeld2 => ?_)
                      · ((try dsimp only) <;> (exact op9 Z1.out.bk))
                      clear hHeld
                      have hHeld := hHeld2
                      clear hHeld2 hK K
                      try simp only [Act.put, List.setIfInBounds_toArray, List.set_cons_zero, List.set_cons_succ]
                      have hcv := run_conv_txt (P := Try.prog) we0 Try.underlying24 Try.underlying5 Try.underlying9 64 (by_blk17 G6.out)
                      rw [round64_len] at hcv
                      refine wpAnyH_ready (rs := [6]) (by kernel_rfl) (by simp) ?_
                      refine AllReadyH.cons (by simp only [List.getElem?_toArray, List.getElem?_cons_succ, List.getElem?_cons_zero]; rfl) (fun K hK => ?_) ?_
                      rotate_left 1
                      · exact AllReadyH.nil
                      go_simp
                      clear hcv G6 hgd
                      refine hK.out _ _ ?_ (fun hHeld2 => ?_)
                      · ((try dsimp only) <;> (exact op9 Z1.out.bk))
                      clear hHeld
                      have hHeld := hHeld2
                      clear hHeld2 hK K
                      try simp only [Act.put, List.setIfInBounds_toArray, List.set_cons_zero, List.set_cons_succ]
                      refine wpAnyH_ready (rs := [7]) (by kernel_rfl) (by simp) ?_
                      refine AllReadyH.cons (by simp only [List.getElem?_toArray, List.getElem?_cons_succ, List.getElem?_cons_zero]; rfl) (fun K hK => ?_) ?_
                      rotate_left 1
                      · exact AllReadyH.nil
                      go_simp
                      refine (C2.out we0 Z1.out.pj.rm Z1.out.pj.ld.sz).mono ?_; rintro r we2 ⟨As1, cs1, Aq1, cq1, rfl, k1⟩; replace Z1 := hide (Z1.out.ref k1); clear k1; unfold refV
                      refine hK.out _ _ ?_ (fun hHeld2 => ?_)
                      · ((try dsimp only) <;> (exact op9 Z1.out.bk))
                      clear hHeld
                      have hHeld := hHeld2
                      clear hHeld2 hK K
                      try simp only [Act.put, List.setIfInBounds_toArray, List.set_cons_zero, List.set_cons_succ]
                      refine wpAnyH_take (i := 8) (v := ?_) (by simp only [List.getElem?_toArray, List.getElem?_cons_succ, List.getElem?_cons_zero]; rfl) (by kernel_rfl) (by kernel_rfl) (by kernel_rfl) (fun _ _ _ h => h) (Or.inl ⟨by rfl, ?_⟩) (by assumption) ?_
                      rotate_left 1
                      · (intro w hSw; (try dsimp only at hSw); go_simp; try with_reducible rfl)
                      try simp only [Act.put, List.setIfInBounds_toArray, List.set_cons_zero, List.set_cons_succ]
                      refine wpAnyH_take (i := 9) (v := ?_) (by simp only [List.getElem?_toArray, List.getElem?_cons_succ, List.getElem?_cons_zero]; rfl) (by kernel_rfl) (by kernel_rfl) (by kernel_rfl) (fun _ _ _ h => h) (Or.inl ⟨by rfl, ?_⟩) (by assumption) ?_
                      rotate_left 1
                      · (intro w hSw; (try dsimp only at hSw); go_simp; try with_reducible rfl)
                      try simp only [Act.put, List.setIfInBounds_toArray, List.set_cons_zero, List.set_cons_succ]
                      refine wpAnyH_take (i := 10) (v := ?_) (by simp only [List.getElem?_toArray, List.getElem?_cons_succ, List.getElem?_cons_zero]; rfl) (by kernel_rfl) (by kernel_rfl) (by kernel_rfl) (fun _ _ _ h => h) (Or.inl ⟨by rfl, ?_⟩) (by assumption) ?_
                      rotate_left 1
                      · (intro w hSw; (try dsimp only at hSw); go_simp; try with_reducible rfl)
                      try simp only [Act.put, List.setIfInBounds_toArray, List.set_cons_zero, List.set_cons_succ]
                      obtain ⟨d0, d1, d2, d3, f0, f1, f2, f3⟩ := cell4 Z1.out.bg
                      refine wpAnyH_ready (rs := [11]) (by kernel_rfl) (by simp) ?_
                      refine AllReadyH.cons (by simp only [List.getElem?_toArray, List.getElem?_cons_succ, List.getElem?_cons_zero]; rfl) (fun K hK => ?_) ?_
                      rotate_left 1
                      · exact AllReadyH.nil
                      go_simp
                      skip
                      refine hK.out _ _ ?_ (fun hHeld2 => ?_)
                      · ((try dsimp only) <;> (exact op9 (far4D Z1.out.bk Z1.out.ne _ _ _ _)))
                      clear hHeld
                      have hHeld := hHeld2
                      clear hHeld2 hK K
                      try simp only [Act.put, List.setIfInBounds_toArray, List.set_cons_zero, List.set_cons_succ]
                      clear d0 d1 d2 d3 f0 f1 f2 f3
                      replace Z1 := hide (Z1.out.put (.slice As1 R.2.sure.length cs1) (.slice Aq1 R.2.queue.length cq1) (.int .i64 (R.2.steps : Int)) (.int .i64 R.2.left))
                      generalize (((we2.setCell ⟨g, 0, none⟩ (.slice As1 R.2.sure.length cs1)).setCell ⟨g, 1, none⟩ (.slice Aq1 R.2.queue.length cq1)).setCell ⟨g, 2, none⟩ (.int .i64 (R.2.steps : Int))).setCell ⟨g, 3, none⟩ (.int .i64 R.2.left) = wf at Z1 hHeld ⊢
                      refine wpAnyH_take (i := 12) (v := ?_) (by simp only [List.getElem?_toArray, List.getElem?_cons_succ, List.getElem?_cons_zero]; rfl) (by kernel_rfl) (by kernel_rfl) (by kernel_rfl) (fun _ _ _ h => h) (Or.inl ⟨by rfl, ?_⟩) (by assumption) ?_
                      rotate_left 1
                      · (intro w hSw; (try dsimp only at hSw); go_simp; try with_reducible rfl)
                      try simp only [Act.put, List.setIfInBounds_toArray, List.set_cons_zero, List.set_cons_succ]
                      refine wpAnyH_done (by kernel_rfl) ?_ _
                      refine NoPanic.normal ?_
                      clear hHeld
                      (try go_wp2_with fail)
                      go_meet
                      exact ⟨_, R.2, As1, cs1, Aq1, cq1, R.1, rfl, rfl, rfl, Z1.out.close, NR.out⟩
                    · skip
                      go_simp
                      refine (ld_bytes wd w.heap.size bA bn bc bl (HOA.out.below Z1.out.pj.ld.bel).b Z1.out.pj.ld.sz HOA.out.bc).mono ?_; rintro r we0 ⟨gb, rfl, hgb, hbk, hbl⟩; have G6 := hide hbk; have hgd := hide (show gb ≠ d by have := Z1.out.pj.ld.lt; exact fun e => by omega); replace Z1 := hide (Z1.out.below hbl); clear hbk hbl hgb
                      refine hK.out _ _ ?_ (fun hHeld2 => ?_)
                      · ((try dsimp only) <;> (exact op9 Z1.out.bk))
                      clear hHeld
                      have hHeld := hHeld2
                      clear hHeld2 hK K
                      try simp only [Act.put, List.setIfInBounds_toArray, List.set_cons_zero, List.set_cons_succ]
                      refine wpAnyH_ready (rs := [0, 6]) (by kernel_rfl) (by simp) ?_
                      refine AllReadyH.cons (by simp only [List.getElem?_toArray, List.getElem?_cons_succ, List.getElem?_cons_zero]; rfl) (fun K hK => ?_) ?_
                      rotate_left 1
                      refine AllReadyH.cons (by simp only [List.getElem?_toArray, List.getElem?_cons_succ, List.getElem?_cons_zero]; rfl) (fun K hK => ?_) ?_
                      rotate_left 1
                      exact AllReadyH.nil
                      · obtain ⟨c0, c1, c2, c3, -⟩ := cell4 Z1.out.bg
                        go_simp
                        refine hK.out _ _ ?_ (fun hHeld2 => ?_)
                        · ((try dsimp only) <;> (first | trivial | assumption | go_keep))
                        clear hHeld
                        have hHeld := hHeld2
                        clear hHeld2 hK K
                        try simp only [Act.put, List.setIfInBounds_toArray, List.set_cons_zero, List.set_cons_succ]
                        clear c0 c1 c2 c3
                        have hcv := run_conv_txt (P := Try.prog) we0 Try.underlying24 Try.underlying5 Try.underlying9 64 (by_blk17 G6.out)
                        rw [round64_len] at hcv
                        refine wpAnyH_ready (rs := [6]) (by kernel_rfl) (by simp) ?_
                        refine AllReadyH.cons (by simp only [List.getElem?_toArray, List.getElem?_cons_succ, List.getElem?_cons_zero]; rfl) (fun K hK => ?_) ?_
                        rotate_left 1
                        · exact AllReadyH.nil
                        go_simp
                        clear hcv G6 hgd
                        refine hK.out _ _ ?_ (fun hHeld2 => ?_)
                        · ((try dsimp only) <;> (exact op9 Z1.out.bk))
                        clear hHeld
                        have hHeld := hHeld2
                        clear hHeld2 hK K
                        try simp only [Act.put, List.setIfInBounds_toArray, List.set_cons_zero, List.set_cons_succ]
                        refine wpAnyH_ready (rs := [7]) (by kernel_rfl) (by simp) ?_
                        refine AllReadyH.cons (by simp only [List.getElem?_toArray, List.getElem?_cons_succ, List.getElem?_cons_zero]; rfl) (fun K hK => ?_) ?_
                        rotate_left 1
                        · exact AllReadyH.nil
                        go_simp
                        refine (C2.out we0 Z1.out.pj.rm Z1.out.pj.ld.sz).mono ?_; rintro r we2 ⟨As1, cs1, Aq1, cq1, rfl, k1⟩; replace Z1 := hide (Z1.out.ref k1); clear k1; unfold refV
                        refine hK.out _ _ ?_ (fun hHeld2 => ?_)
                        · ((try dsimp only) <;> (exact op9 Z1.out.bk))
                        clear hHeld
                        have hHeld := hHeld2
                        clear hHeld2 hK K
                        try simp only [Act.put, List.setIfInBounds_toArray, List.set_cons_zero, List.set_cons_succ]
                        refine wpAnyH_take (i := 8) (v := ?_) (by simp only [List.getElem?_toArray, List.getElem?_cons_succ, List.getElem?_cons_zero]; rfl) (by kernel_rfl) (by kernel_rfl) (by kernel_rfl) (fun _ _ _ h => h) (Or.inl ⟨by rfl, ?_⟩) (by assumption) ?_
                        rotate_left 1
                        · (intro w hSw; (try dsimp only at hSw); go_simp; try with_reducible rfl)
                        try simp only [Act.put, List.setIfInBounds_toArray, List.set_cons_zero, List.set_cons_succ]
                        refine wpAnyH_take (i := 9) (v := ?_) (by simp only [List.getElem?_toArray, List.getElem?_cons_succ, List.getElem?_cons_zero]; rfl) (by kernel_rfl) (by kernel_rfl) (by kernel_rfl) (fun _ _ _ h => h) (Or.inl ⟨by rfl, ?_⟩) (by assumption) ?_
                        rotate_left 1
                        · (intro w hSw; (try dsimp only at hSw); go_simp; try with_reducible rfl)
                        try simp only [Act.put, List.setIfInBounds_toArray, List.set_cons_zero, List.set_cons_succ]
                        refine wpAnyH_take (i := 10) (v := ?_) (by simp only [List.getElem?_toArray, List.getElem?_cons_succ, List.getElem?_cons_zero]; rfl) (by kernel_rfl) (by kernel_rfl) (by kernel_rfl) (fun _ _ _ h => h) (Or.inl ⟨by rfl, ?_⟩) (by assumption) ?_
                        rotate_left 1
                        · (intro w hSw; (try dsimp only at hSw); go_simp; try with_reducible rfl)
                        try simp only [Act.put, List.setIfInBounds_toArray, List.set_cons_zero, List.set_cons_succ]
                        obtain ⟨d0, d1, d2, d3, f0, f1, f2, f3⟩ := cell4 Z1.out.bg
                        refine wpAnyH_ready (rs := [11]) (by kernel_rfl) (by simp) ?_
                        refine AllReadyH.cons (by simp only [List.getElem?_toArray, List.getElem?_cons_succ, List.getElem?_cons_zero]; rfl) (fun K hK => ?_) ?_
                        rotate_left 1
                        · exact AllReadyH.nil
                        go_simp
                        skip
                        refine hK.out _ _ ?_ (fun hHeld2 => ?_)
                        · ((try dsimp only) <;> (exact op9 (far4D Z1.out.bk Z1.out.ne _ _ _ _)))
                        clear hHeld
                        have hHeld := hHeld2
                        clear hHeld2 hK K
                        try simp only [Act.put, List.setIfInBounds_toArray, List.set_cons_zero, List.set_cons_succ]
                        clear d0 d1 d2 d3 f0 f1 f2 f3
                        replace Z1 := hide (Z1.out.put (.slice As1 R.2.sure.length cs1) (.slice Aq1 R.2.queue.length cq1) (.int .i64 (R.2.steps : Int)) (.int .i64 R.2.left))
                        generalize (((we2.setCell ⟨g, 0, none⟩ (.slice As1 R.2.sure.length cs1)).setCell ⟨g, 1, none⟩ (.slice Aq1 R.2.queue.length cq1)).setCell ⟨g, 2, none⟩ (.int .i64 (R.2.steps : Int))).setCell ⟨g, 3, none⟩ (.int .i64 R.2.left) = wf at Z1 hHeld ⊢
                        refine wpAnyH_take (i := 12) (v := ?_) (by simp only [List.getElem?_toArray, List.getElem?_cons_succ, List.getElem?_cons_zero]; rfl) (by kernel_rfl) (by kernel_rfl) (by kernel_rfl) (fun _ _ _ h => h) (Or.inl ⟨by rfl, ?_⟩) (by assumption) ?_
                        rotate_left 1
                        · (intro w hSw; (try dsimp only at hSw); go_simp; try with_reducible rfl)
                        try simp only [Act.put, List.setIfInBounds_toArray, List.set_cons_zero, List.set_cons_succ]
                        refine wpAnyH_done (by kernel_rfl) ?_ _
                        refine NoPanic.normal ?_
                        clear hHeld
                        (try go_wp2_with fail)
                        go_meet
                        exact ⟨_, R.2, As1, cs1, Aq1, cq1, R.1, rfl, rfl, rfl, Z1.out.close, NR.out⟩
                      · skip
                        have hcv := run_conv_txt (P := Try.prog) we0 Try.underlying24 Try.underlying5 Try.underlying9 64 (by_blk17 G6.out)
                        rw [round64_len] at hcv
                        go_simp
                        clear hcv G6 hgd
                        refine hK.out _ _ ?_ (fun hHeld2 => ?_)
                        · ((try dsimp only) <;> (exact op9 Z1.out.bk))
                        clear hHeld
                        have hHeld := hHeld2
                        clear hHeld2 hK K
                        try simp only [Act.put, List.setIfInBounds_toArray, List.set_cons_zero, List.set_cons_succ]
                        obtain ⟨c0, c1, c2, c3, -⟩ := cell4 Z1.out.bg
                        refine wpAnyH_ready (rs := [0]) (by kernel_rfl) (by simp) ?_
                        refine AllReadyH.cons (by simp only [List.getElem?_toArray, List.getElem?_cons_succ, List.getElem?_cons_zero]; rfl) (fun K hK => ?_) ?_
                        rotate_left 1
                        · exact AllReadyH.nil
                        go_simp
                        refine hK.out _ _ ?_ (fun hHeld2 => ?_)
                        · ((try dsimp only) <;> (first | trivial | assumption | go_keep))
                        clear hHeld
                        have hHeld := hHeld2
                        clear hHeld2 hK K
                        try simp only [Act.put, List.setIfInBounds_toArray, List.set_cons_zero, List.set_cons_succ]
                        clear c0 c1 c2 c3
                        refine wpAnyH_ready (rs := [7]) (by kernel_rfl) (by simp) ?_
                        refine AllReadyH.cons (by simp only [List.getElem?_toArray, List.getElem?_cons_succ, List.getElem?_cons_zero]; rfl) (fun K hK => ?_) ?_
                        rotate_left 1
                        · exact AllReadyH.nil
                        go_simp
                        refine (C2.out we0 Z1.out.pj.rm Z1.out.pj.ld.sz).mono ?_; rintro r we2 ⟨As1, cs1, Aq1, cq1, rfl, k1⟩; replace Z1 := hide (Z1.out.ref k1); clear k1; unfold refV
                        refine hK.out _ _ ?_ (fun hHeld2 => ?_)
                        · ((try dsimp only) <;> (exact op9 Z1.out.bk))
                        clear hHeld
                        have hHeld := hHeld2
                        clear hHeld2 hK K
                        try simp only [Act.put, List.setIfInBounds_toArray, List.set_cons_zero, List.set_cons_succ]
                        refine wpAnyH_take (i := 8) (v := ?_) (by simp only [List.getElem?_toArray, List.getElem?_cons_succ, List.getElem?_cons_zero]; rfl) (by kernel_rfl) (by kernel_rfl) (by kernel_rfl) (fun _ _ _ h => h) (Or.inl ⟨by rfl, ?_⟩) (by assumption) ?_
                        rotate_left 1
                        · (intro w hSw; (try dsimp only at hSw); go_simp; try with_reducible rfl)
                        try simp only [Act.put, List.setIfInBounds_toArray, List.set_cons_zero, List.set_cons_succ]
                        refine wpAnyH_take (i := 9) (v := ?_) (by simp only [List.getElem?_toArray, List.getElem?_cons_succ, List.getElem?_cons_zero]; rfl) (by kernel_rfl) (by kernel_rfl) (by kernel_rfl) (fun _ _ _ h => h) (Or.inl ⟨by rfl, ?_⟩) (by assumption) ?_
                        rotate_left 1
                        · (intro w hSw; (try dsimp only at hSw); go_simp; try with_reducible rfl)
                        try simp only [Act.put, List.setIfInBounds_toArray, List.set_cons_zero, List.set_cons_succ]
                        refine wpAnyH_take (i := 10) (v := ?_) (by simp only [List.getElem?_toArray, List.getElem?_cons_succ, List.getElem?_cons_zero]; rfl) (by kernel_rfl) (by kernel_rfl) (by kernel_rfl) (fun _ _ _ h => h) (Or.inl ⟨by rfl, ?_⟩) (by assumption) ?_
                        rotate_left 1
                        · (intro w hSw; (try dsimp only at hSw); go_simp; try with_reducible rfl)
                        try simp only [Act.put, List.setIfInBounds_toArray, List.set_cons_zero, List.set_cons_succ]
                        obtain ⟨d0, d1, d2, d3, f0, f1, f2, f3⟩ := cell4 Z1.out.bg
                        refine wpAnyH_ready (rs := [11]) (by kernel_rfl) (by simp) ?_
                        refine AllReadyH.cons (by simp only [List.getElem?_toArray, List.getElem?_cons_succ, List.getElem?_cons_zero]; rfl) (fun K hK => ?_) ?_
                        rotate_left 1
                        · exact AllReadyH.nil
                        go_simp
                        skip
                        refine hK.out _ _ ?_ (fun hHeld2 => ?_)
                        · ((try dsimp only) <;> (exact op9 (far4D Z1.out.bk Z1.out.ne _ _ _ _)))
                        clear hHeld
                        have hHeld := hHeld2
                        clear hHeld2 hK K
                        try simp only [Act.put, List.setIfInBounds_toArray, List.set_cons_zero, List.set_cons_succ]
                        clear d0 d1 d2 d3 f0 f1 f2 f3
                        replace Z1 := hide (Z1.out.put (.slice As1 R.2.sure.length cs1) (.slice Aq1 R.2.queue.length cq1) (.int .i64 (R.2.steps : Int)) (.int .i64 R.2.left))
                        generalize (((we2.setCell ⟨g, 0, none⟩ (.slice As1 R.2.sure.length cs1)).setCell ⟨g, 1, none⟩ (.slice Aq1 R.2.queue.length cq1)).setCell ⟨g, 2, none⟩ (.int .i64 (R.2.steps : Int))).setCell ⟨g, 3, none⟩ (.int .i64 R.2.left) = wf at Z1 hHeld ⊢
                        refine wpAnyH_take (i := 12) (v := ?_) (by simp only [List.getElem?_toArray, List.getElem?_cons_succ, List.getElem?_cons_zero]; rfl) (by kernel_rfl) (by kernel_rfl) (by kernel_rfl) (fun _ _ _ h => h) (Or.inl ⟨by rfl, ?_⟩) (by assumption) ?_
                        rotate_left 1
                        · (intro w hSw; (try dsimp only at hSw); go_simp; try with_reducible rfl)
                        try simp only [Act.put, List.setIfInBounds_toArray, List.set_cons_zero, List.set_cons_succ]
                        refine wpAnyH_done (by kernel_rfl) ?_ _
                        refine NoPanic.normal ?_
                        clear hHeld
                        (try go_wp2_with fail)
                        go_meet
                        exact ⟨_, R.2, As1, cs1, Aq1, cq1, R.1, rfl, rfl, rfl, Z1.out.close, NR.out⟩
                · have e5 : (kind == 5) = false := beq_eq_false_iff_ne.2 k5
                  clear k5
                  by_cases k6 : kind = 6
                  · subst k6
                    as_aux_lemma =>
                      obtain ⟨x0, x1, x2, x3, x4, x5, x6, x7, x8⟩ := op9 Z1.out.bk
                      go_wp2_with fail
                      clear x0 x1 x2 x3 x4 x5 x6 x7 x8
                      refine (pref_any pe pc pm pf wz).mono ?_
                      rintro r w5 ⟨rfl, hb⟩
                      replace Z1 := hide (Z1.out.below hb)
                      clear hb
                      go_wp2_with fail
                      refine (rgood_any pe pc pm pf w5).mono ?_
                      rintro r w6 ⟨rfl, hb⟩
                      replace Z1 := hide (Z1.out.below hb)
                      clear hb
                      by_cases hp : PtP pe pc pm pf
                      · rw [show decide (PtP pe pc pm pf) = true from decide_eq_true hp]
                        obtain ⟨pe, rfl⟩ : ∃ x : Nat, pe = (x : Int) := ⟨pe.toNat, by unfold PtP at hp; omega⟩
                        obtain ⟨pc, rfl⟩ : ∃ x : Nat, pc = (x : Int) := ⟨pc.toNat, by unfold PtP at hp; omega⟩
                        obtain ⟨pm, rfl⟩ : ∃ x : Nat, pm = (x : Int) := ⟨pm.toNat, by unfold PtP at hp; omega⟩
                        obtain ⟨pf, rfl⟩ : ∃ x : Nat, pf = (x : Int) := ⟨pf.toNat, by unfold PtP at hp; omega⟩
                        have HP := hide hp
                        have NR := hide (wrtP_near D on (ptBytes pe pc pm pf))
                        have C2 := fun w' (h : RefM w' w.heap.size As cs Aq cq D) (hb : w.heap.size ≤ w'.heap.size) => rput_ans w.heap.size As cs Aq cq D on (ptBytes pe pc pm pf) w' h hb (ptBytes_length _ _ _ _) (by have := HS.out; omega) (by have := HQ.out; omega)
                        have C1 := hide (fun w' d (h : LD w w' d D) g c (hc : 64 ≤ c) hcs => wr_stpF h on g c (ptBytes pe pc pm pf) (by have := HS.out; omega) (by have := HQ.out; omega) (ptBytes_length _ _ _ _) hc hcs)
                        unfold refV at C2
                        replace C2 := hide C2
                        obtain ⟨R, hR⟩ : ∃ R, R = wrtP D on (ptBytes pe pc pm pf) := ⟨_, rfl⟩
                        rw [← hR] at NR
                        simp only [← hR] at C1 C2
                        clear hR hp
                        go_upto_region 31 with fail
                        have s0 := op9 Z1.out.bk.drew
                        refine wp_region_noPanic ?_
                        refine wp_region_held_drew (S := (fun w' => w'.cell? ⟨k, 0, none⟩ = some (.int .i64 6) ∧ w'.cell? ⟨k, 1, none⟩ = some (.int .i64 on) ∧ w'.cell? ⟨k, 2, none⟩ = some (.int .i64 sec) ∧ w'.cell? ⟨k, 3, none⟩ = some (.int .i64 pe) ∧ w'.cell? ⟨k, 4, none⟩ = some (.int .i64 pc) ∧ w'.cell? ⟨k, 5, none⟩ = some (.int .i64 pm) ∧ w'.cell? ⟨k, 6, none⟩ = some (.int .i64 pf) ∧ w'.cell? ⟨k, 7, none⟩ = some (.slice bA bn bc) ∧ w'.cell? ⟨k, 8, none⟩ = some (.slice kA kn kc))) (by kernel_rfl) ?_ (fun hHeld => ?_)
                        · ((try dsimp only) <;> (first | trivial | assumption | go_keep))
                        clear s0
                        replace Z1 := hide Z1.out.drew
                        generalize w6.drew = wd at *
                        refine wpAnyH_take (i := 0) (v := ?_) (by simp only [List.getElem?_toArray, List.getElem?_cons_succ, List.getElem?_cons_zero]; rfl) (by kernel_rfl) (by kernel_rfl) (by kernel_rfl) (fun _ _ _ h => h) (Or.inl ⟨by rfl, ?_⟩) (by assumption) ?_
                        rotate_left 1
                        · (intro w hSw; (try dsimp only at hSw); go_simp; try with_reducible rfl)
                        try simp only [Act.put, List.setIfInBounds_toArray, List.set_cons_zero, List.set_cons_succ]
                        refine wpAnyH_take (i := 1) (v := ?_) (by simp only [List.getElem?_toArray, List.getElem?_cons_succ, List.getElem?_cons_zero]; rfl) (by kernel_rfl) (by kernel_rfl) (by kernel_rfl) (fun _ _ _ h => h) (Or.inl ⟨by rfl, ?_⟩) (by assumption) ?_
                        rotate_left 1
                        · (intro w hSw; (try dsimp only at hSw); go_simp; try with_reducible rfl)
                        try simp only [Act.put, List.setIfInBounds_toArray, List.set_cons_zero, List.set_cons_succ]
                        refine wpAnyH_take (i := 2) (v := ?_) (by simp only [List.getElem?_toArray, List.getElem?_cons_succ, List.getElem?_cons_zero]; rfl) (by kernel_rfl) (by kernel_rfl) (by kernel_rfl) (fun _ _ _ h => h) (Or.inl ⟨by rfl, ?_⟩) (by assumption) ?_
                        rotate_left 1
                        · (intro w hSw; (try dsimp only at hSw); go_simp; try with_reducible rfl)
                        try simp only [Act.put, List.setIfInBounds_toArray, List.set_cons_zero, List.set_cons_succ]
                        refine wpAnyH_take (i := 3) (v := ?_) (by simp only [List.getElem?_toArray, List.getElem?_cons_succ, List.getElem?_cons_zero]; rfl) (by kernel_rfl) (by kernel_rfl) (by kernel_rfl) (fun _ _ _ h => h) (Or.inl ⟨by rfl, ?_⟩) (by assumption) ?_
                        rotate_left 1
                        · (intro w hSw; (try dsimp only at hSw); go_simp; try with_reducible rfl)
                        try simp only [Act.put, List.setIfInBounds_toArray, List.set_cons_zero, List.set_cons_succ]
                        refine wpAnyH_take (i := 4) (v := ?_) (by simp only [List.getElem?_toArray, List.getElem?_cons_succ, List.getElem?_cons_zero]; rfl) (by kernel_rfl) (by kernel_rfl) (by kernel_rfl) (fun _ _ _ h => h) (Or.inl ⟨by rfl, ?_⟩) (by assumption) ?_
                        rotate_left 1
                        · (intro w hSw; (try dsimp only at hSw); go_simp; try with_reducible rfl)
                        try simp only [Act.put, List.setIfInBounds_toArray, List.set_cons_zero, List.set_cons_succ]
                        refine wpAnyH_ready (rs := [5]) (by kernel_rfl) (by simp) ?_
                        refine AllReadyH.cons (by simp only [List.getElem?_toArray, List.getElem?_cons_succ, List.getElem?_cons_zero]; rfl) (fun K hK => ?_) ?_
                        rotate_left 1
                        · exact AllReadyH.nil
                        go_simp
                        refine (pref_any pe pc pm pf wd).mono ?_; rintro r we1 ⟨rfl, hb⟩; replace Z1 := hide (Z1.out.below hb); clear hb
                        refine hK.out _ _ ?_ (fun hHeld2 => ?_)
                        · ((try dsimp only) <;> (exact op9 Z1.out.bk))
                        clear hHeld
                        have hHeld := hHeld2
                        clear hHeld2 hK K
                        try simp only [Act.put, List.setIfInBounds_toArray, List.set_cons_zero, List.set_cons_succ]
                        refine wpAnyH_ready (rs := [6]) (by kernel_rfl) (by simp) ?_
                        refine AllReadyH.cons (by simp only [List.getElem?_toArray, List.getElem?_cons_succ, List.getElem?_cons_zero]; rfl) (fun K hK => ?_) ?_
                        rotate_left 1
                        · exact AllReadyH.nil
                        go_simp
                        refine (renc17 pe pc pm pf we1 HP.out).mono ?_; rintro r we2 ⟨rfl, hb⟩; replace Z1 := hide (Z1.out.below hb); clear hb
                        refine hK.out _ _ ?_ (fun hHeld2 => ?_)
                        · ((try dsimp only) <;> (exact op9 Z1.out.bk))
                        clear hHeld
                        have hHeld := hHeld2
                        clear hHeld2 hK K
                        try simp only [Act.put, List.setIfInBounds_toArray, List.set_cons_zero, List.set_cons_succ]
                        have hcv := Lib.run_convert_string_bytes (P := Try.prog) we2 9 24 5 (txt (ptBytes pe pc pm pf)) Try.underlying9 Try.underlying24 Try.underlying5
                        rw [show (txt (ptBytes pe pc pm pf)).size = 64 from (txt_size17 _).trans (ptBytes_length _ _ _ _)] at hcv
                        have hbw := bw_below we2 5 (txt (ptBytes pe pc pm pf))
                        have Z7 := hide (Z1.out.below hbw)
                        refine wpAnyH_ready (rs := [7]) (by kernel_rfl) (by simp) ?_
                        refine AllReadyH.cons (by simp only [List.getElem?_toArray, List.getElem?_cons_succ, List.getElem?_cons_zero]; rfl) (fun K hK => ?_) ?_
                        rotate_left 1
                        · exact AllReadyH.nil
                        go_simp
                        skip
                        refine hK.out _ _ ?_ (fun hHeld2 => ?_)
                        · ((try dsimp only) <;> (exact op9 Z7.out.bk))
                        clear hHeld
                        have hHeld := hHeld2
                        clear hHeld2 hK K
                        try simp only [Act.put, List.setIfInBounds_toArray, List.set_cons_zero, List.set_cons_succ]
                        clear hcv hbw
                        refine wpAnyH_ready (rs := [8]) (by kernel_rfl) (by simp) ?_
                        refine AllReadyH.cons (by simp only [List.getElem?_toArray, List.getElem?_cons_succ, List.getElem?_cons_zero]; rfl) (fun K hK => ?_) ?_
                        rotate_left 1
                        · exact AllReadyH.nil
                        go_simp
                        refine (C1.out _ _ Z7.out.pj.ld we2.heap.size _ (grownCap_ge _ _ _ _) (fun w' hk j u hu => bw_cells we2 5 _ hk (by have := Z1.out.pj.ld.lt; omega) j u hu)).mono ?_; rintro r wc2 ⟨rfl, st⟩; replace Z1 := hide (Z7.out.stp st); clear st C1 Z7
                        refine hK.out _ _ ?_ (fun hHeld2 => ?_)
                        · ((try dsimp only) <;> (exact op9 Z1.out.bk))
                        clear hHeld
                        have hHeld := hHeld2
                        clear hHeld2 hK K
                        try simp only [Act.put, List.setIfInBounds_toArray, List.set_cons_zero, List.set_cons_succ]
                        refine wpAnyH_take (i := 9) (v := ?_) (by simp only [List.getElem?_toArray, List.getElem?_cons_succ, List.getElem?_cons_zero]; rfl) (by kernel_rfl) (by kernel_rfl) (by kernel_rfl) (fun _ _ _ h => h) (Or.inl ⟨by rfl, ?_⟩) (by assumption) ?_
                        rotate_left 1
                        · (intro w hSw; (try dsimp only at hSw); go_simp; try with_reducible rfl)
                        try simp only [Act.put, List.setIfInBounds_toArray, List.set_cons_zero, List.set_cons_succ]
                        refine wpAnyH_done (by kernel_rfl) ?_ _
                        refine NoPanic.normal ?_
                        clear hHeld
                        go_upto_region 32 with fail
                        have s0 := op9 Z1.out.bk.drew
                        refine wp_region_noPanic ?_
                        refine wp_region_held_drew (S := (fun w' => w'.cell? ⟨k, 0, none⟩ = some (.int .i64 6) ∧ w'.cell? ⟨k, 1, none⟩ = some (.int .i64 on) ∧ w'.cell? ⟨k, 2, none⟩ = some (.int .i64 sec) ∧ w'.cell? ⟨k, 3, none⟩ = some (.int .i64 pe) ∧ w'.cell? ⟨k, 4, none⟩ = some (.int .i64 pc) ∧ w'.cell? ⟨k, 5, none⟩ = some (.int .i64 pm) ∧ w'.cell? ⟨k, 6, none⟩ = some (.int .i64 pf) ∧ w'.cell? ⟨k, 7, none⟩ = some (.slice bA bn bc) ∧ w'.cell? ⟨k, 8, none⟩ = some (.slice kA kn kc))) (by kernel_rfl) ?_ (fun hHeld => ?_)
                        · ((try dsimp only) <;> (first | trivial | assumption | go_keep))
                        clear s0
                        replace Z1 := hide Z1.out.drew
                        generalize wc2.drew = wd at *
                        refine wpAnyH_take (i := 1) (v := ?_) (by simp only [List.getElem?_toArray, List.getElem?_cons_succ, List.getElem?_cons_zero]; rfl) (by kernel_rfl) (by kernel_rfl) (by kernel_rfl) (fun _ _ _ h => h) (Or.inl ⟨by rfl, ?_⟩) (by assumption) ?_
                        rotate_left 1
                        · (intro w hSw; (try dsimp only at hSw); go_simp; try with_reducible rfl)
                        try simp only [Act.put, List.setIfInBounds_toArray, List.set_cons_zero, List.set_cons_succ]
                        refine wpAnyH_take (i := 2) (v := ?_) (by simp only [List.getElem?_toArray, List.getElem?_cons_succ, List.getElem?_cons_zero]; rfl) (by kernel_rfl) (by kernel_rfl) (by kernel_rfl) (fun _ _ _ h => h) (Or.inl ⟨by rfl, ?_⟩) (by assumption) ?_
                        rotate_left 1
                        · (intro w hSw; (try dsimp only at hSw); go_simp; try with_reducible rfl)
                        try simp only [Act.put, List.setIfInBounds_toArray, List.set_cons_zero, List.set_cons_succ]
                        refine wpAnyH_take (i := 3) (v := ?_) (by simp only [List.getElem?_toArray, List.getElem?_cons_succ, List.getElem?_cons_zero]; rfl) (by kernel_rfl) (by kernel_rfl) (by kernel_rfl) (fun _ _ _ h => h) (Or.inl ⟨by rfl, ?_⟩) (by assumption) ?_
                        rotate_left 1
                        · (intro w hSw; (try dsimp only at hSw); go_simp; try with_reducible rfl)
                        try simp only [Act.put, List.setIfInBounds_toArray, List.set_cons_zero, List.set_cons_succ]
                        refine wpAnyH_take (i := 4) (v := ?_) (by simp only [List.getElem?_toArray, List.getElem?_cons_succ, List.getElem?_cons_zero]; rfl) (by kernel_rfl) (by kernel_rfl) (by kernel_rfl) (fun _ _ _ h => h) (Or.inl ⟨by rfl, ?_⟩) (by assumption) ?_
                        rotate_left 1
                        · (intro w hSw; (try dsimp only at hSw); go_simp; try with_reducible rfl)
                        try simp only [Act.put, List.setIfInBounds_toArray, List.set_cons_zero, List.set_cons_succ]
                        refine wpAnyH_ready (rs := [0, 5]) (by kernel_rfl) (by simp) ?_
                        refine AllReadyH.cons (by simp only [List.getElem?_toArray, List.getElem?_cons_succ, List.getElem?_cons_zero]; rfl) (fun K hK => ?_) ?_
                        rotate_left 1
                        refine AllReadyH.cons (by simp only [List.getElem?_toArray, List.getElem?_cons_succ, List.getElem?_cons_zero]; rfl) (fun K hK => ?_) ?_
                        rotate_left 1
                        exact AllReadyH.nil
                        · obtain ⟨c0, c1, c2, c3, -⟩ := cell4 Z1.out.bg
                          go_simp
                          refine hK.out _ _ ?_ (fun hHeld2 => ?_)
                          · ((try dsimp only) <;> (first | trivial | assumption | go_keep))
                          clear hHeld
                          have hHeld := hHeld2
                          clear hHeld2 hK K
                          try simp only [Act.put, List.setIfInBounds_toArray, List.set_cons_zero, List.set_cons_succ]
                          clear c0 c1 c2 c3
                          refine wpAnyH_ready (rs := [5]) (by kernel_rfl) (by simp) ?_
                          refine AllReadyH.cons (by simp only [List.getElem?_toArray, List.getElem?_cons_succ, List.getElem?_cons_zero]; rfl) (fun K hK => ?_) ?_
                          rotate_left 1
                          · exact AllReadyH.nil
                          go_simp
                          refine (pref_any pe pc pm pf wd).mono ?_; rintro r we0 ⟨rfl, hb⟩; replace Z1 := hide (Z1.out.below hb); clear hb
                          refine hK.out _ _ ?_ (fun hHeld2 => ?_)
                          · ((try dsimp only) <;> (exact op9 Z1.out.bk))
                          clear hHeld
                          have hHeld := hHeld2
                          clear hHeld2 hK K
                          try simp only [Act.put, List.setIfInBounds_toArray, List.set_cons_zero, List.set_cons_succ]
                          refine wpAnyH_ready (rs := [6]) (by kernel_rfl) (by simp) ?_
                          refine AllReadyH.cons (by simp only [List.getElem?_toArray, List.getElem?_cons_succ, List.getElem?_cons_zero]; rfl) (fun K hK => ?_) ?_
                          rotate_left 1
                          · exact AllReadyH.nil
                          go_simp
                          refine (renc17 pe pc pm pf we0 HP.out).mono ?_; rintro r we1 ⟨rfl, hb⟩; replace Z1 := hide (Z1.out.below hb); clear hb
                          refine hK.out _ _ ?_ (fun hHeld2 => ?_)
                          · ((try dsimp only) <;> (exact op9 Z1.out.bk))
                          clear hHeld
                          have hHeld := hHeld2
                          clear hHeld2 hK K
                          try simp only [Act.put, List.setIfInBounds_toArray, List.set_cons_zero, List.set_cons_succ]
                          refine wpAnyH_ready (rs := [7]) (by kernel_rfl) (by simp) ?_
                          refine AllReadyH.cons (by simp only [List.getElem?_toArray, List.getElem?_cons_succ, List.getElem?_cons_zero]; rfl) (fun K hK => ?_) ?_
                          rotate_left 1
                          · exact AllReadyH.nil
                          go_simp
                          refine (C2.out we1 Z1.out.pj.rm Z1.out.pj.ld.sz).mono ?_; rintro r we2 ⟨As1, cs1, Aq1, cq1, rfl, k1⟩; replace Z1 := hide (Z1.out.ref k1); clear k1; unfold refV
                          refine hK.out _ _ ?_ (fun hHeld2 => ?_)
                          · ((try dsimp only) <;> (exact op9 Z1.out.bk))
                          clear hHeld
                          have hHeld := hHeld2
                          clear hHeld2 hK K
                          try simp only [Act.put, List.setIfInBounds_toArray, List.set_cons_zero, List.set_cons_succ]
                          refine wpAnyH_take (i := 8) (v := ?_) (by simp only [List.getElem?_toArray, List.getElem?_cons_succ, List.getElem?_cons_zero]; rfl) (by kernel_rfl) (by kernel_rfl) (by kernel_rfl) (fun _ _ _ h => h) (Or.inl ⟨by rfl, ?_⟩) (by assumption) ?_
                          rotate_left 1
                          · (intro w hSw; (try dsimp only at hSw); go_simp; try with_reducible rfl)
                          try simp only [Act.put, List.setIfInBounds_toArray, List.set_cons_zero, List.set_cons_succ]
                          refine wpAnyH_take (i := 9) (v := ?_) (by simp only [List.getElem?_toArray, List.getElem?_cons_succ, List.getElem?_cons_zero]; rfl) (by kernel_rfl) (by kernel_rfl) (by kernel_rfl) (fun _ _ _ h => h) (Or.inl ⟨by rfl, ?_⟩) (by assumption) ?_
                          rotate_left 1
                          · (intro w hSw; (try dsimp only at hSw); go_simp; try with_reducible rfl)
                          try simp only [Act.put, List.setIfInBounds_toArray, List.set_cons_zero, List.set_cons_succ]
                          refine wpAnyH_take (i := 10) (v := ?_) (by simp only [List.getElem?_toArray, List.getElem?_cons_succ, List.getElem?_cons_zero]; rfl) (by kernel_rfl) (by kernel_rfl) (by kernel_rfl) (fun _ _ _ h => h) (Or.inl ⟨by rfl, ?_⟩) (by assumption) ?_
                          rotate_left 1
                          · (intro w hSw; (try dsimp only at hSw); go_simp; try with_reducible rfl)
                          try simp only [Act.put, List.setIfInBounds_toArray, List.set_cons_zero, List.set_cons_succ]
                          obtain ⟨d0, d1, d2, d3, f0, f1, f2, f3⟩ := cell4 Z1.out.bg
                          refine wpAnyH_ready (rs := [11]) (by kernel_rfl) (by simp) ?_
                          refine AllReadyH.cons (by simp only [List.getElem?_toArray, List.getElem?_cons_succ, List.getElem?_cons_zero]; rfl) (fun K hK => ?_) ?_
                          rotate_left 1
                          · exact AllReadyH.nil
                          go_simp
                          skip
                          refine hK.out _ _ ?_ (fun hHeld2 => ?_)
                          · ((try dsimp only) <;> (exact op9 (far4D Z1.out.bk Z1.out.ne _ _ _ _)))
                          clear hHeld
                          have hHeld := hHeld2
                          clear hHeld2 hK K
                          try simp only [Act.put, List.setIfInBounds_toArray, List.set_cons_zero, List.set_cons_succ]
                          clear d0 d1 d2 d3 f0 f1 f2 f3
                          replace Z1 := hide (Z1.out.put (.slice As1 R.2.sure.length cs1) (.slice Aq1 R.2.queue.length cq1) (.int .i64 (R.2.steps : Int)) (.int .i64 R.2.left))
                          generalize (((we2.setCell ⟨g, 0, none⟩ (.slice As1 R.2.sure.length cs1)).setCell ⟨g, 1, none⟩ (.slice Aq1 R.2.queue.length cq1)).setCell ⟨g, 2, none⟩ (.int .i64 (R.2.steps : Int))).setCell ⟨g, 3, none⟩ (.int .i64 R.2.left) = wf at Z1 hHeld ⊢
                          refine wpAnyH_take (i := 12) (v := ?_) (by simp only [List.getElem?_toArray, List.getElem?_cons_succ, List.getElem?_cons_zero]; rfl) (by kernel_rfl) (by kernel_rfl) (by kernel_rfl) (fun _ _ _ h => h) (Or.inl ⟨by rfl, ?_⟩) (by assumption) ?_
                          rotate_left 1
                          · (intro w hSw; (try dsimp only at hSw); go_simp; try with_reducible rfl)
                          try simp only [Act.put, List.setIfInBounds_toArray, List.set_cons_zero, List.set_cons_succ]
                          refine wpAnyH_done (by kernel_rfl) ?_ _
                          refine NoPanic.normal ?_
                          clear hHeld
                          (try go_wp2_with fail)
                          go_meet
                          exact ⟨_, R.2, As1, cs1, Aq1, cq1, R.1, rfl, rfl, rfl, Z1.out.close, NR.out⟩
                        · skip
                          go_simp
                          refine (pref_any pe pc pm pf wd).mono ?_; rintro r we0 ⟨rfl, hb⟩; replace Z1 := hide (Z1.out.below hb); clear hb
                          refine hK.out _ _ ?_ (fun hHeld2 => ?_)
                          · ((try dsimp only) <;> (exact op9 Z1.out.bk))
                          clear hHeld
                          have hHeld := hHeld2
                          clear hHeld2 hK K
                          try simp only [Act.put, List.setIfInBounds_toArray, List.set_cons_zero, List.set_cons_succ]
                          refine wpAnyH_ready (rs := [0, 6]) (by kernel_rfl) (by simp) ?_
                          refine AllReadyH.cons (by simp only [List.getElem?_toArray, List.getElem?_cons_succ, List.getElem?_cons_zero]; rfl) (fun K hK => ?_) ?_
                          rotate_left 1
                          refine AllReadyH.cons (by simp only [List.getElem?_toArray, List.getElem?_cons_succ, List.getElem?_cons_zero]; rfl) (fun K hK => ?_) ?_
                          rotate_left 1
                          exact AllReadyH.nil
                          · obtain ⟨c0, c1, c2, c3, -⟩ := cell4 Z1.out.bg
                            go_simp
                            refine hK.out _ _ ?_ (fun hHeld2 => ?_)
                            · ((try dsimp only) <;> (first | trivial | assumption | go_keep))
                            clear hHeld
                            have hHeld := hHeld2
                            clear hHeld2 hK K
                            try simp only [Act.put, List.setIfInBounds_toArray, List.set_cons_zero, List.set_cons_succ]
                            clear c0 c1 c2 c3
                            refine wpAnyH_ready (rs := [6]) (by kernel_rfl) (by simp) ?_
                            refine AllReadyH.cons (by simp only [List.getElem?_toArray, List.getElem?_cons_succ, List.getElem?_cons_zero]; rfl) (fun K hK => ?_) ?_
                            rotate_left 1
                            · exact AllReadyH.nil
                            go_simp
                            refine (renc17 pe pc pm pf we0 HP.out).mono ?_; rintro r we1 ⟨rfl, hb⟩; replace Z1 := hide (Z1.out.below hb); clear hb
                            refine hK.out _ _ ?_ (fun hHeld2 => ?_)
                            · ((try dsimp only) <;> (exact op9 Z1.out.bk))
                            clear hHeld
                            have hHeld := hHeld2
                            clear hHeld2 hK K
                            try simp only [Act.put, List.setIfInBounds_toArray, List.set_cons_zero, List.set_cons_succ]
                            refine wpAnyH_ready (rs := [7]) (by kernel_rfl) (by simp) ?_
                            refine AllReadyH.cons (by simp only [List.getElem?_toArray, List.getElem?_cons_succ, List.getElem?_cons_zero]; rfl) (fun K hK => ?_) ?_
                            rotate_left 1
                            · exact AllReadyH.nil
                            go_simp
                            refine (C2.out we1 Z1.out.pj.rm Z1.out.pj.ld.sz).mono ?_; rintro r we2 ⟨As1, cs1, Aq1, cq1, rfl, k1⟩; replace Z1 := hide (Z1.out.ref k1); clear k1; unfold refV
                            refine hK.out _ _ ?_ (fun hHeld2 => ?_)
                            · ((try dsimp only) <;> (exact op9 Z1.out.bk))
                            clear hHeld
                            have hHeld := hHeld2
                            clear hHeld2 hK K
                            try simp only [Act.put, List.setIfInBounds_toArray, List.set_cons_zero, List.set_cons_succ]
                            refine wpAnyH_take (i := 8) (v := ?_) (by simp only [List.getElem?_toArray, List.getElem?_cons_succ, List.getElem?_cons_zero]; rfl) (by kernel_rfl) (by kernel_rfl) (by kernel_rfl) (fun _ _ _ h => h) (Or.inl ⟨by rfl, ?_⟩) (by assumption) ?_
                            rotate_left 1
                            · (intro w hSw; (try dsimp only at hSw); go_simp; try with_reducible rfl)
                            try simp only [Act.put, List.setIfInBounds_toArray, List.set_cons_zero, List.set_cons_succ]
                            refine wpAnyH_take (i := 9) (v := ?_) (by simp only [List.getElem?_toArray, List.getElem?_cons_succ, List.getElem?_cons_zero]; rfl) (by kernel_rfl) (by kernel_rfl) (by kernel_rfl) (fun _ _ _ h => h) (Or.inl ⟨by rfl, ?_⟩) (by assumption) ?_
                            rotate_left 1
                            · (intro w hSw; (try dsimp only at hSw); go_simp; try with_reducible rfl)
                            try simp only [Act.put, List.setIfInBounds_toArray, List.set_cons_zero, List.set_cons_succ]
                            refine wpAnyH_take (i := 10) (v := ?_) (by simp only [List.getElem?_toArray, List.getElem?_cons_succ, List.getElem?_cons_zero]; rfl) (by kernel_rfl) (by kernel_rfl) (by kernel_rfl) (fun _ _ _ h => h) (Or.inl ⟨by rfl, ?_⟩) (by assumption) ?_
                            rotate_left 1
                            · (intro w hSw; (try dsimp only at hSw); go_simp; try with_reducible rfl)
                            try simp only [Act.put, List.setIfInBounds_toArray, List.set_cons_zero, List.set_cons_succ]
                            obtain ⟨d0, d1, d2, d3, f0, f1, f2, f3⟩ := cell4 Z1.out.bg
                            refine wpAnyH_ready (rs := [11]) (by kernel_rfl) (by simp) ?_
                            refine AllReadyH.cons (by simp only [List.getElem?_toArray, List.getElem?_cons_succ, List.getElem?_cons_zero]; rfl) (fun K hK => ?_) ?_
                            rotate_left 1
                            · exact AllReadyH.nil
                            go_simp
                            skip
                            refine hK.out _ _ ?_ (fun hHeld2 => ?_)
                            · ((try dsimp only) <;> (exact op9 (far4D Z1.out.bk Z1.out.ne _ _ _ _)))
                            clear hHeld
                            have hHeld := hHeld2
                            clear hHeld2 hK K
                            try simp only [Act.put, List.setIfInBounds_toArray, List.set_cons_zero, List.set_cons_succ]
                            clear d0 d1 d2 d3 f0 f1 f2 f3
                            replace Z1 := hide (Z1.out.put (.slice As1 R.2.sure.length cs1) (.slice Aq1 R.2.queue.length cq1) (.int .i64 (R.2.steps : Int)) (.int .i64 R.2.left))
                            generalize (((we2.setCell ⟨g, 0, none⟩ (.slice As1 R.2.sure.length cs1)).setCell ⟨g, 1, none⟩ (.slice Aq1 R.2.queue.length cq1)).setCell ⟨g, 2, none⟩ (.int .i64 (R.2.steps : Int))).setCell ⟨g, 3, none⟩ (.int .i64 R.2.left) = wf at Z1 hHeld ⊢
                            refine wpAnyH_take (i := 12) (v := ?_) (by simp only [List.getElem?_toArray, List.getElem?_cons_succ, List.getElem?_cons_zero]; rfl) (by kernel_rfl) (by kernel_rfl) (by kernel_rfl) (fun _ _ _ h => h) (Or.inl ⟨by rfl, ?_⟩) (by assumption) ?_
                            rotate_left 1
                            · (intro w hSw; (try dsimp only at hSw); go_simp; try with_reducible rfl)
                            try simp only [Act.put, List.setIfInBounds_toArray, List.set_cons_zero, List.set_cons_succ]
                            refine wpAnyH_done (by kernel_rfl) ?_ _
                            refine NoPanic.normal ?_
                            clear hHeld
                            (try go_wp2_with fail)
                            go_meet
                            exact ⟨_, R.2, As1, cs1, Aq1, cq1, R.1, rfl, rfl, rfl, Z1.out.close, NR.out⟩
                          · skip
                            go_simp
                            refine (renc17 pe pc pm pf we0 HP.out).mono ?_; rintro r we1 ⟨rfl, hb⟩; replace Z1 := hide (Z1.out.below hb); clear hb
                            refine hK.out _ _ ?_ (fun hHeld2 => ?_)
                            · ((try dsimp only) <;> (exact op9 Z1.out.bk))
                            clear hHeld
                            have hHeld := hHeld2
                            clear hHeld2 hK K
                            try simp only [Act.put, List.setIfInBounds_toArray, List.set_cons_zero, List.set_cons_succ]
                            obtain ⟨c0, c1, c2, c3, -⟩ := cell4 Z1.out.bg
                            refine wpAnyH_ready (rs := [0]) (by kernel_rfl) (by simp) ?_
                            refine AllReadyH.cons (by simp only [List.getElem?_toArray, List.getElem?_cons_succ, List.getElem?_cons_zero]; rfl) (fun K hK => ?_) ?_
                            rotate_left 1
                            · exact AllReadyH.nil
                            go_simp
                            refine hK.out _ _ ?_ (fun hHeld2 => ?_)
                            · ((try dsimp only) <;> (first | trivial | assumption | go_keep))
                            clear hHeld
                            have hHeld := hHeld2
                            clear hHeld2 hK K
                            try simp only [Act.put, List.setIfInBounds_toArray, List.set_cons_zero, List.set_cons_succ]
                            clear c0 c1 c2 c3
                            refine wpAnyH_ready (rs := [7]) (by kernel_rfl) (by simp) ?_
                            refine AllReadyH.cons (by simp only [List.getElem?_toArray, List.getElem?_cons_succ, List.getElem?_cons_zero]; rfl) (fun K hK => ?_) ?_
                            rotate_left 1
                            · exact AllReadyH.nil
                            go_simp
                            refine (C2.out we1 Z1.out.pj.rm Z1.out.pj.ld.sz).mono ?_; rintro r we2 ⟨As1, cs1, Aq1, cq1, rfl, k1⟩; replace Z1 := hide (Z1.out.ref k1); clear k1; unfold refV
                            refine hK.out _ _ ?_ (fun hHeld2 => ?_)
                            · ((try dsimp only) <;> (exact op9 Z1.out.bk))
                            clear hHeld
                            have hHeld := hHeld2
                            clear hHeld2 hK K
                            try simp only [Act.put, List.setIfInBounds_toArray, List.set_cons_zero, List.set_cons_succ]
                            refine wpAnyH_take (i := 8) (v := ?_) (by simp only [List.getElem?_toArray, List.getElem?_cons_succ, List.getElem?_cons_zero]; rfl) (by kernel_rfl) (by kernel_rfl) (by kernel_rfl) (fun _ _ _ h => h) (Or.inl ⟨by rfl, ?_⟩) (by assumption) ?_
                            rotate_left 1
                            · (intro w hSw; (try dsimp only at hSw); go_simp; try with_reducible rfl)
                            try simp only [Act.put, List.setIfInBounds_toArray, List.set_cons_zero, List.set_cons_succ]
                            refine wpAnyH_take (i := 9) (v := ?_) (by simp only [List.getElem?_toArray, List.getElem?_cons_succ, List.getElem?_cons_zero]; rfl) (by kernel_rfl) (by kernel_rfl) (by kernel_rfl) (fun _ _ _ h => h) (Or.inl ⟨by rfl, ?_⟩) (by assumption) ?_
                            rotate_left 1
                            · (intro w hSw; (try dsimp only at hSw); go_simp; try with_reducible rfl)
                            try simp only [Act.put, List.setIfInBounds_toArray, List.set_cons_zero, List.set_cons_succ]
                            refine wpAnyH_take (i := 10) (v := ?_) (by simp only [List.getElem?_toArray, List.getElem?_cons_succ, List.getElem?_cons_zero]; rfl) (by kernel_rfl) (by kernel_rfl) (by kernel_rfl) (fun _ _ _ h => h) (Or.inl ⟨by rfl, ?_⟩) (by assumption) ?_
                            rotate_left 1
                            · (intro w hSw; (try dsimp only at hSw); go_simp; try with_reducible rfl)
                            try simp only [Act.put, List.setIfInBounds_toArray, List.set_cons_zero, List.set_cons_succ]
                            obtain ⟨d0, d1, d2, d3, f0, f1, f2, f3⟩ := cell4 Z1.out.bg
                            refine wpAnyH_ready (rs := [11]) (by kernel_rfl) (by simp) ?_
                            refine AllReadyH.cons (by simp only [List.getElem?_toArray, List.getElem?_cons_succ, List.getElem?_cons_zero]; rfl) (fun K hK => ?_) ?_
                            rotate_left 1
                            · exact AllReadyH.nil
                            go_simp
                            skip
                            refine hK.out _ _ ?_ (fun hHeld2 => ?_)
                            · ((try dsimp only) <;> (exact op9 (far4D Z1.out.bk Z1.out.ne _ _ _ _)))
                            clear hHeld
                            have hHeld := hHeld2
                            clear hHeld2 hK K
                            try simp only [Act.put, List.setIfInBounds_toArray, List.set_cons_zero, List.set_cons_succ]
                            clear d0 d1 d2 d3 f0 f1 f2 f3
                            replace Z1 := hide (Z1.out.put (.slice As1 R.2.sure.length cs1) (.slice Aq1 R.2.queue.length cq1) (.int .i64 (R.2.steps : Int)) (.int .i64 R.2.left))
                            generalize (((we2.setCell ⟨g, 0, none⟩ (.slice As1 R.2.sure.length cs1)).setCell ⟨g, 1, none⟩ (.slice Aq1 R.2.queue.length cq1)).setCell ⟨g, 2, none⟩ (.int .i64 (R.2.steps : Int))).setCell ⟨g, 3, none⟩ (.int .i64 R.2.left) = wf at Z1 hHeld ⊢
                            refine wpAnyH_take (i := 12) (v := ?_) (by simp only [List.getElem?_toArray, List.getElem?_cons_succ, List.getElem?_cons_zero]; rfl) (by kernel_rfl) (by kernel_rfl) (by kernel_rfl) (fun _ _ _ h => h) (Or.inl ⟨by rfl, ?_⟩) (by assumption) ?_
                            rotate_left 1
                            · (intro w hSw; (try dsimp only at hSw); go_simp; try with_reducible rfl)
                            try simp only [Act.put, List.setIfInBounds_toArray, List.set_cons_zero, List.set_cons_succ]
                            refine wpAnyH_done (by kernel_rfl) ?_ _
                            refine NoPanic.normal ?_
                            clear hHeld
                            (try go_wp2_with fail)
                            go_meet
                            exact ⟨_, R.2, As1, cs1, Aq1, cq1, R.1, rfl, rfl, rfl, Z1.out.close, NR.out⟩
                      · rw [show decide (PtP pe pc pm pf) = false from decide_eq_false hp]
                        clear hp
                        go_wp2_with fail
                        go_meet
                        exact ⟨_, D, As, cs, Aq, cq, 0, rfl, rfl, rfl, Z1.out.close, near_refl D⟩
                  · have e6 : (kind == 6) = false := beq_eq_false_iff_ne.2 k6
                    clear k6
                    go_wp2_with fail
                    go_meet
                    exact ⟨_, D, As, cs, Aq, cq, 0, rfl, rfl, rfl, Z1.out.close, near_refl D⟩
      case rest =>
        obtain ⟨d', D', As', cs', Aq', cq', code, rfl, rfl, rfl, hp, hnear⟩ := hcut
        have P5 := hide hp
        have NR := hide hnear
        clear hp hnear Z1 HOA
        go_wp2_with fail
        refine (load_any w wc d' D' P5.out.pj.ld).mono ?_
        rintro e w6 ⟨rfl, hb⟩
        have FT := hide (countsP_fit D')
        have C7 := fun w' (h : PB w w' g d' D' As' cs' Aq' cq') => rcounts_any w' w.heap.size As' cs' Aq' cq' D' h.pj.rm
        obtain ⟨⟨cn, qe, qc, qn, qf⟩, hcq⟩ : ∃ x, x = countsP D' := ⟨_, rfl⟩
        rw [← hcq] at FT C7 ⊢
        rw [refV_eq] at C7
        replace C7 := hide C7
        have hb6 : Below wc.heap.size wc (w6.alloc (.cells (ptC qe qc qn qf) 23)) := hb.alloc hb.size _
        have P6 := hide (P5.out.below hb6)
        have K13 := hide (Blk.new w6 23 (ptC qe qc qn qf))
        have EQ : ∀ w, (Op.equalIn 10000 30 (.agg #[.int .i64 qe, .int .i64 qc, .int .i64 qn, .int .i64 qf]) (.agg #[.int .i64 qe, .int .i64 qc, .int .i64 qn, .int .i64 qf])).run Try.prog w = .ok true w := fun w => rt_same ⟨qe, qc, qn, qf⟩ FT.out w
        replace EQ := hide EQ
        clear hb hb6 hcq FT P5
        go_upto_region 34 with fail
        obtain ⟨g13, hg13⟩ : ∃ g, g = w6.heap.size := ⟨_, rfl⟩
        rw [← hg13] at K13 ⊢
        clear hg13
        generalize w6.alloc _ = w7 at P6 K13 ⊢
        obtain ⟨c0, c1, c2, c3, -⟩ := cell4 P6.out.bk
        go_wp2_with fail
        clear c0 c1 c2 c3
        refine (C7.out w7 P6.out).mono ?_
        rintro e w8 ⟨rfl, hb⟩
        have hb8 : Below w7.heap.size w7 (w8.alloc (.cells (ptC qe qc qn qf) 30)) := hb.alloc hb.size _
        have P7 := hide (P6.out.below hb8)
        replace K13 := hide (K13.out.below hb8)
        have K16 := hide (Blk.new w8 30 (ptC qe qc qn qf))
        clear hb hb8 P6 C7
        go_upto_region 35 with fail
        obtain ⟨g16, hg16⟩ : ∃ g, g = w8.heap.size := ⟨_, rfl⟩
        rw [← hg16] at K16 ⊢
        clear hg16
        generalize w8.alloc _ = w9 at P7 K13 K16 ⊢
        by_cases h0 : cn = 0
        · subst h0
          as_aux_lemma =>
            have s0 := rest_cells K13.out.drew K16.out.drew P7.out.bk.drew
            refine wp_region_noPanic ?_
            refine wp_region_held_drew (S := (fun w' => w'.cell? ⟨g13, 0, none⟩ = some (.int .i64 qe) ∧ w'.cell? ⟨g13, 1, none⟩ = some (.int .i64 qc) ∧ w'.cell? ⟨g13, 2, none⟩ = some (.int .i64 qn) ∧ w'.cell? ⟨g13, 3, none⟩ = some (.int .i64 qf) ∧ w'.cell? ⟨g16, 0, none⟩ = some (.int .i64 qe) ∧ w'.cell? ⟨g16, 1, none⟩ = some (.int .i64 qc) ∧ w'.cell? ⟨g16, 2, none⟩ = some (.int .i64 qn) ∧ w'.cell? ⟨g16, 3, none⟩ = some (.int .i64 qf) ∧ w'.cell? ⟨g, 0, none⟩ = some (.slice As' D'.sure.length cs') ∧ w'.cell? ⟨g, 1, none⟩ = some (.slice Aq' D'.queue.length cq') ∧ w'.cell? ⟨g, 2, none⟩ = some (.int .i64 (D'.steps : Int)) ∧ w'.cell? ⟨g, 3, none⟩ = some (.int .i64 D'.left))) (by kernel_rfl) ?_ (fun hHeld => ?_)
            · ((try dsimp only) <;> (first | trivial | assumption | go_keep))
            clear s0
            replace K13 := hide K13.out.drew
            replace K16 := hide K16.out.drew
            replace P7 := hide P7.out.drew
            generalize w9.drew = wd at *
            refine wpAnyH_take (i := 0) (v := ?_) (by simp only [List.getElem?_toArray, List.getElem?_cons_succ, List.getElem?_cons_zero]; rfl) (by kernel_rfl) (by kernel_rfl) (by kernel_rfl) (fun _ _ _ h => h) (Or.inl ⟨by rfl, ?_⟩) (by assumption) ?_
            rotate_left 1
            · (intro w hSw; (try dsimp only at hSw); go_simp; try with_reducible rfl)
            try simp only [Act.put, List.setIfInBounds_toArray, List.set_cons_zero, List.set_cons_succ]
            refine wpAnyH_take (i := 1) (v := ?_) (by simp only [List.getElem?_toArray, List.getElem?_cons_succ, List.getElem?_cons_zero]; rfl) (by kernel_rfl) (by kernel_rfl) (by kernel_rfl) (fun _ _ _ h => h) (Or.inl ⟨by rfl, ?_⟩) (by assumption) ?_
            rotate_left 1
            · (intro w hSw; (try dsimp only at hSw); go_simp; try with_reducible rfl)
            try simp only [Act.put, List.setIfInBounds_toArray, List.set_cons_zero, List.set_cons_succ]
            refine wpAnyH_take (i := 2) (v := ?_) (by simp only [List.getElem?_toArray, List.getElem?_cons_succ, List.getElem?_cons_zero]; rfl) (by kernel_rfl) (by kernel_rfl) (by kernel_rfl) (fun _ _ _ h => h) (Or.inl ⟨by rfl, ?_⟩) (by assumption) ?_
            rotate_left 1
            · (intro w hSw; (try dsimp only at hSw); go_simp; try with_reducible rfl)
            try simp only [Act.put, List.setIfInBounds_toArray, List.set_cons_zero, List.set_cons_succ]
            refine wpAnyH_take (i := 3) (v := ?_) (by simp only [List.getElem?_toArray, List.getElem?_cons_succ, List.getElem?_cons_zero]; rfl) (by kernel_rfl) (by kernel_rfl) (by kernel_rfl) (fun _ _ _ h => h) (Or.inl ⟨by rfl, ?_⟩) (by assumption) ?_
            rotate_left 1
            · (intro w hSw; (try dsimp only at hSw); go_simp; try with_reducible rfl)
            try simp only [Act.put, List.setIfInBounds_toArray, List.set_cons_zero, List.set_cons_succ]
            refine wpAnyH_take (i := 4) (v := ?_) (by simp only [List.getElem?_toArray, List.getElem?_cons_succ, List.getElem?_cons_zero]; rfl) (by kernel_rfl) (by kernel_rfl) (by kernel_rfl) (fun _ _ _ h => h) (Or.inl ⟨by rfl, ?_⟩) (by assumption) ?_
            rotate_left 1
            · (intro w hSw; (try dsimp only at hSw); go_simp; try with_reducible rfl)
            try simp only [Act.put, List.setIfInBounds_toArray, List.set_cons_zero, List.set_cons_succ]
            refine wpAnyH_take (i := 5) (v := ?_) (by simp only [List.getElem?_toArray, List.getElem?_cons_succ, List.getElem?_cons_zero]; rfl) (by kernel_rfl) (by kernel_rfl) (by kernel_rfl) (fun _ _ _ h => h) (Or.inl ⟨by rfl, ?_⟩) (by assumption) ?_
            rotate_left 1
            · (intro w hSw; (try dsimp only at hSw); go_simp; try with_reducible rfl)
            try simp only [Act.put, List.setIfInBounds_toArray, List.set_cons_zero, List.set_cons_succ]
            refine wpAnyH_take (i := 6) (v := ?_) (by simp only [List.getElem?_toArray, List.getElem?_cons_succ, List.getElem?_cons_zero]; rfl) (by kernel_rfl) (by kernel_rfl) (by kernel_rfl) (fun _ _ _ h => h) (Or.inl ⟨by rfl, ?_⟩) (by assumption) ?_
            rotate_left 1
            · (intro w hSw; (try dsimp only at hSw); go_simp; try with_reducible rfl)
            try simp only [Act.put, List.setIfInBounds_toArray, List.set_cons_zero, List.set_cons_succ]
            refine wpAnyH_take (i := 7) (v := ?_) (by simp only [List.getElem?_toArray, List.getElem?_cons_succ, List.getElem?_cons_zero]; rfl) (by kernel_rfl) (by kernel_rfl) (by kernel_rfl) (fun _ _ _ h => h) (Or.inl ⟨by rfl, ?_⟩) (by assumption) ?_
            rotate_left 1
            · (intro w hSw; (try dsimp only at hSw); go_simp; try with_reducible rfl)
            try simp only [Act.put, List.setIfInBounds_toArray, List.set_cons_zero, List.set_cons_succ]
            refine wpAnyH_take (i := 8) (v := ?_) (by simp only [List.getElem?_toArray, List.getElem?_cons_succ, List.getElem?_cons_zero]; rfl) (by kernel_rfl) (by kernel_rfl) (by kernel_rfl) (fun _ _ _ h => h) (Or.inl ⟨by rfl, ?_⟩) (by assumption) ?_
            rotate_left 1
            · (intro w hSw; (try dsimp only at hSw); go_simp; try with_reducible rfl)
            try simp only [Act.put, List.setIfInBounds_toArray, List.set_cons_zero, List.set_cons_succ]
            refine wpAnyH_take (i := 9) (v := ?_) (by simp only [List.getElem?_toArray, List.getElem?_cons_succ, List.getElem?_cons_zero]; rfl) (by kernel_rfl) (by kernel_rfl) (by kernel_rfl) (fun _ _ _ h => h) (Or.inl ⟨by rfl, ?_⟩) (by assumption) ?_
            rotate_left 1
            · (intro w hSw; (try dsimp only at hSw); go_simp; try with_reducible rfl)
            try simp only [Act.put, List.setIfInBounds_toArray, List.set_cons_zero, List.set_cons_succ]
            refine wpAnyH_take (i := 10) (v := ?_) (by simp only [List.getElem?_toArray, List.getElem?_cons_succ, List.getElem?_cons_zero]; rfl) (by kernel_rfl) (by kernel_rfl) (by kernel_rfl) (fun _ _ _ h => h) (Or.inl ⟨by rfl, ?_⟩) (by assumption) ?_
            rotate_left 1
            · (intro w hSw; (try dsimp only at hSw); go_simp; try with_reducible rfl)
            try simp only [Act.put, List.setIfInBounds_toArray, List.set_cons_zero, List.set_cons_succ]
            refine wpAnyH_take (i := 12) (v := ?_) (by simp only [List.getElem?_toArray, List.getElem?_cons_succ, List.getElem?_cons_zero]; rfl) (by kernel_rfl) (by kernel_rfl) (by kernel_rfl) (fun _ _ _ h => h) (Or.inl ⟨by rfl, ?_⟩) (by assumption) ?_
            rotate_left 1
            · (intro w hSw; (try dsimp only at hSw); go_simp; try with_reducible rfl)
            try simp only [Act.put, List.setIfInBounds_toArray, List.set_cons_zero, List.set_cons_succ]
            refine wpAnyH_ready (rs := [11]) (by kernel_rfl) (by simp) ?_
            refine AllReadyH.cons (by simp only [List.getElem?_toArray, List.getElem?_cons_succ, List.getElem?_cons_zero]; rfl) (fun K hK => ?_) ?_
            rotate_left 1
            · exact AllReadyH.nil
            go_simp
            refine (pref_any qe qc qn qf wd).mono ?_; rintro e w10 ⟨rfl, hb⟩; replace K13 := hide (K13.out.below hb); replace K16 := hide (K16.out.below hb); have P8 := hide (P7.out.below hb); clear hb P7
            refine hK.out _ _ ?_ (fun hHeld2 => ?_)
            · ((try dsimp only) <;> (exact rest_cells K13.out K16.out P8.out.bk))
            clear hHeld
            have hHeld := hHeld2
            clear hHeld2 hK K
            try simp only [Act.put, List.setIfInBounds_toArray, List.set_cons_zero, List.set_cons_succ]
            have EQ' := EQ.out
            refine wpAnyH_take (i := 13) (v := ?_) (by simp only [List.getElem?_toArray, List.getElem?_cons_succ, List.getElem?_cons_zero]; rfl) (by kernel_rfl) (by kernel_rfl) (by kernel_rfl) (fun _ _ _ h => h) (Or.inl ⟨by rfl, ?_⟩) (by assumption) ?_
            rotate_left 1
            · (intro w hSw; (try dsimp only at hSw); go_simp; try with_reducible rfl)
            try simp only [Act.put, List.setIfInBounds_toArray, List.set_cons_zero, List.set_cons_succ]
            refine wpAnyH_take (i := 14) (v := ?_) (by simp only [List.getElem?_toArray, List.getElem?_cons_succ, List.getElem?_cons_zero]; rfl) (by kernel_rfl) (by kernel_rfl) (by kernel_rfl) (fun _ _ _ h => h) (Or.inl ⟨by rfl, ?_⟩) (by assumption) ?_
            rotate_left 1
            · (intro w hSw; (try dsimp only at hSw); go_simp; try with_reducible rfl)
            try simp only [Act.put, List.setIfInBounds_toArray, List.set_cons_zero, List.set_cons_succ]
            refine wpAnyH_take (i := 15) (v := ?_) (by simp only [List.getElem?_toArray, List.getElem?_cons_succ, List.getElem?_cons_zero]; rfl) (by kernel_rfl) (by kernel_rfl) (by kernel_rfl) (fun _ _ _ h => h) (Or.inl ⟨by rfl, ?_⟩) (by assumption) ?_
            rotate_left 1
            · (intro w hSw; (try dsimp only at hSw); go_simp; try with_reducible rfl)
            try simp only [Act.put, List.setIfInBounds_toArray, List.set_cons_zero, List.set_cons_succ]
            refine wpAnyH_take (i := 16) (v := ?_) (by simp only [List.getElem?_toArray, List.getElem?_cons_succ, List.getElem?_cons_zero]; rfl) (by kernel_rfl) (by kernel_rfl) (by kernel_rfl) (fun _ _ _ h => h) (Or.inl ⟨by rfl, ?_⟩) (by assumption) ?_
            rotate_left 1
            · (intro w hSw; (try dsimp only at hSw); go_simp; try with_reducible rfl)
            try simp only [Act.put, List.setIfInBounds_toArray, List.set_cons_zero, List.set_cons_succ]
            refine wpAnyH_take (i := 17) (v := ?_) (by simp only [List.getElem?_toArray, List.getElem?_cons_succ, List.getElem?_cons_zero]; rfl) (by kernel_rfl) (by kernel_rfl) (by kernel_rfl) (fun _ _ _ h => h) (Or.inl ⟨by rfl, ?_⟩) (by assumption) ?_
            rotate_left 1
            · (intro w hSw; (try dsimp only at hSw); go_simp; try with_reducible rfl)
            try simp only [Act.put, List.setIfInBounds_toArray, List.set_cons_zero, List.set_cons_succ]
            clear EQ'
            refine wpAnyH_ready (rs := [18]) (by kernel_rfl) (by simp) ?_
            refine AllReadyH.cons (by simp only [List.getElem?_toArray, List.getElem?_cons_succ, List.getElem?_cons_zero]; rfl) (fun K hK => ?_) ?_
            rotate_left 1
            · exact AllReadyH.nil
            go_simp
            have CT := tells_any w10 d' D' w.heap.size As' cs' Aq' cq' P8.out.pj.ld P8.out.pj.rm; rw [refV_eq] at CT; refine CT.mono ?_; rintro e w11 ⟨rfl, hb⟩; replace K13 := hide (K13.out.below hb); replace K16 := hide (K16.out.below hb); have P9 := hide (P8.out.below hb); clear hb P8 CT
            refine hK.out _ _ ?_ (fun hHeld2 => ?_)
            · ((try dsimp only) <;> (exact rest_cells K13.out K16.out P9.out.bk))
            clear hHeld
            have hHeld := hHeld2
            clear hHeld2 hK K
            try simp only [Act.put, List.setIfInBounds_toArray, List.set_cons_zero, List.set_cons_succ]
            refine wpAnyH_take (i := 19) (v := ?_) (by simp only [List.getElem?_toArray, List.getElem?_cons_succ, List.getElem?_cons_zero]; rfl) (by kernel_rfl) (by kernel_rfl) (by kernel_rfl) (fun _ _ _ h => h) (Or.inl ⟨by rfl, ?_⟩) (by assumption) ?_
            rotate_left 1
            · (intro w hSw; (try dsimp only at hSw); go_simp; try with_reducible rfl)
            try simp only [Act.put, List.setIfInBounds_toArray, List.set_cons_zero, List.set_cons_succ]
            refine wpAnyH_take (i := 20) (v := ?_) (by simp only [List.getElem?_toArray, List.getElem?_cons_succ, List.getElem?_cons_zero]; rfl) (by kernel_rfl) (by kernel_rfl) (by kernel_rfl) (fun _ _ _ h => h) (Or.inl ⟨by rfl, ?_⟩) (by assumption) ?_
            rotate_left 1
            · (intro w hSw; (try dsimp only at hSw); go_simp; try with_reducible rfl)
            try simp only [Act.put, List.setIfInBounds_toArray, List.set_cons_zero, List.set_cons_succ]
            refine wpAnyH_done (by kernel_rfl) ?_ _
            refine NoPanic.normal ?_
            clear hHeld K13 K16 EQ
            go_wp2_with fail
            go_roundw
            case rel => exact ⟨i + 1, d', D', As', cs', Aq', cq', by omega, by omega, rfl, by go_num, P9.out, by have := NR.out.1; have := H2.out; omega, by have := NR.out.2.1; have := H3.out; omega, by rw [NR.out.2.2]; exact H4.out⟩
            case measure => simp [intOf]; omega
        · have h0d : decide (0 < cn) = true := decide_eq_true (by omega)
          have h0e : decide (0 < (cn : Int)) = true := decide_eq_true (by omega)
          as_aux_lemma =>
            have s0 := rest_cells K13.out.drew K16.out.drew P7.out.bk.drew
            refine wp_region_noPanic ?_
            refine wp_region_held_drew (S := (fun w' => w'.cell? ⟨g13, 0, none⟩ = some (.int .i64 qe) ∧ w'.cell? ⟨g13, 1, none⟩ = some (.int .i64 qc) ∧ w'.cell? ⟨g13, 2, none⟩ = some (.int .i64 qn) ∧ w'.cell? ⟨g13, 3, none⟩ = some (.int .i64 qf) ∧ w'.cell? ⟨g16, 0, none⟩ = some (.int .i64 qe) ∧ w'.cell? ⟨g16, 1, none⟩ = some (.int .i64 qc) ∧ w'.cell? ⟨g16, 2, none⟩ = some (.int .i64 qn) ∧ w'.cell? ⟨g16, 3, none⟩ = some (.int .i64 qf) ∧ w'.cell? ⟨g, 0, none⟩ = some (.slice As' D'.sure.length cs') ∧ w'.cell? ⟨g, 1, none⟩ = some (.slice Aq' D'.queue.length cq') ∧ w'.cell? ⟨g, 2, none⟩ = some (.int .i64 (D'.steps : Int)) ∧ w'.cell? ⟨g, 3, none⟩ = some (.int .i64 D'.left))) (by kernel_rfl) ?_ (fun hHeld => ?_)
            · ((try dsimp only) <;> (first | trivial | assumption | go_keep))
            clear s0
            replace K13 := hide K13.out.drew
            replace K16 := hide K16.out.drew
            replace P7 := hide P7.out.drew
            generalize w9.drew = wd at *
            refine wpAnyH_take (i := 0) (v := ?_) (by simp only [List.getElem?_toArray, List.getElem?_cons_succ, List.getElem?_cons_zero]; rfl) (by kernel_rfl) (by kernel_rfl) (by kernel_rfl) (fun _ _ _ h => h) (Or.inl ⟨by rfl, ?_⟩) (by assumption) ?_
            rotate_left 1
            · (intro w hSw; (try dsimp only at hSw); go_simp; try with_reducible rfl)
            try simp only [Act.put, List.setIfInBounds_toArray, List.set_cons_zero, List.set_cons_succ]
            refine wpAnyH_take (i := 1) (v := ?_) (by simp only [List.getElem?_toArray, List.getElem?_cons_succ, List.getElem?_cons_zero]; rfl) (by kernel_rfl) (by kernel_rfl) (by kernel_rfl) (fun _ _ _ h => h) (Or.inl ⟨by rfl, ?_⟩) (by assumption) ?_
            rotate_left 1
            · (intro w hSw; (try dsimp only at hSw); go_simp; try with_reducible rfl)
            try simp only [Act.put, List.setIfInBounds_toArray, List.set_cons_zero, List.set_cons_succ]
            refine wpAnyH_take (i := 2) (v := ?_) (by simp only [List.getElem?_toArray, List.getElem?_cons_succ, List.getElem?_cons_zero]; rfl) (by kernel_rfl) (by kernel_rfl) (by kernel_rfl) (fun _ _ _ h => h) (Or.inl ⟨by rfl, ?_⟩) (by assumption) ?_
            rotate_left 1
            · (intro w hSw; (try dsimp only at hSw); go_simp; try with_reducible rfl)
            try simp only [Act.put, List.setIfInBounds_toArray, List.set_cons_zero, List.set_cons_succ]
            refine wpAnyH_take (i := 3) (v := ?_) (by simp only [List.getElem?_toArray, List.getElem?_cons_succ, List.getElem?_cons_zero]; rfl) (by kernel_rfl) (by kernel_rfl) (by kernel_rfl) (fun _ _ _ h => h) (Or.inl ⟨by rfl, ?_⟩) (by assumption) ?_
            rotate_left 1
            · (intro w hSw; (try dsimp only at hSw); go_simp; try with_reducible rfl)
            try simp only [Act.put, List.setIfInBounds_toArray, List.set_cons_zero, List.set_cons_succ]
            refine wpAnyH_take (i := 4) (v := ?_) (by simp only [List.getElem?_toArray, List.getElem?_cons_succ, List.getElem?_cons_zero]; rfl) (by kernel_rfl) (by kernel_rfl) (by kernel_rfl) (fun _ _ _ h => h) (Or.inl ⟨by rfl, ?_⟩) (by assumption) ?_
            rotate_left 1
            · (intro w hSw; (try dsimp only at hSw); go_simp; try with_reducible rfl)
            try simp only [Act.put, List.setIfInBounds_toArray, List.set_cons_zero, List.set_cons_succ]
            refine wpAnyH_take (i := 5) (v := ?_) (by simp only [List.getElem?_toArray, List.getElem?_cons_succ, List.getElem?_cons_zero]; rfl) (by kernel_rfl) (by kernel_rfl) (by kernel_rfl) (fun _ _ _ h => h) (Or.inl ⟨by rfl, ?_⟩) (by assumption) ?_
            rotate_left 1
            · (intro w hSw; (try dsimp only at hSw); go_simp; try with_reducible rfl)
            try simp only [Act.put, List.setIfInBounds_toArray, List.set_cons_zero, List.set_cons_succ]
            refine wpAnyH_take (i := 6) (v := ?_) (by simp only [List.getElem?_toArray, List.getElem?_cons_succ, List.getElem?_cons_zero]; rfl) (by kernel_rfl) (by kernel_rfl) (by kernel_rfl) (fun _ _ _ h => h) (Or.inl ⟨by rfl, ?_⟩) (by assumption) ?_
            rotate_left 1
            · (intro w hSw; (try dsimp only at hSw); go_simp; try with_reducible rfl)
            try simp only [Act.put, List.setIfInBounds_toArray, List.set_cons_zero, List.set_cons_succ]
            refine wpAnyH_take (i := 7) (v := ?_) (by simp only [List.getElem?_toArray, List.getElem?_cons_succ, List.getElem?_cons_zero]; rfl) (by kernel_rfl) (by kernel_rfl) (by kernel_rfl) (fun _ _ _ h => h) (Or.inl ⟨by rfl, ?_⟩) (by assumption) ?_
            rotate_left 1
            · (intro w hSw; (try dsimp only at hSw); go_simp; try with_reducible rfl)
            try simp only [Act.put, List.setIfInBounds_toArray, List.set_cons_zero, List.set_cons_succ]
            refine wpAnyH_take (i := 8) (v := ?_) (by simp only [List.getElem?_toArray, List.getElem?_cons_succ, List.getElem?_cons_zero]; rfl) (by kernel_rfl) (by kernel_rfl) (by kernel_rfl) (fun _ _ _ h => h) (Or.inl ⟨by rfl, ?_⟩) (by assumption) ?_
            rotate_left 1
            · (intro w hSw; (try dsimp only at hSw); go_simp; try with_reducible rfl)
            try simp only [Act.put, List.setIfInBounds_toArray, List.set_cons_zero, List.set_cons_succ]
            refine wpAnyH_take (i := 9) (v := ?_) (by simp only [List.getElem?_toArray, List.getElem?_cons_succ, List.getElem?_cons_zero]; rfl) (by kernel_rfl) (by kernel_rfl) (by kernel_rfl) (fun _ _ _ h => h) (Or.inl ⟨by rfl, ?_⟩) (by assumption) ?_
            rotate_left 1
            · (intro w hSw; (try dsimp only at hSw); go_simp; try with_reducible rfl)
            try simp only [Act.put, List.setIfInBounds_toArray, List.set_cons_zero, List.set_cons_succ]
            refine wpAnyH_take (i := 10) (v := ?_) (by simp only [List.getElem?_toArray, List.getElem?_cons_succ, List.getElem?_cons_zero]; rfl) (by kernel_rfl) (by kernel_rfl) (by kernel_rfl) (fun _ _ _ h => h) (Or.inl ⟨by rfl, ?_⟩) (by assumption) ?_
            rotate_left 1
            · (intro w hSw; (try dsimp only at hSw); go_simp; try with_reducible rfl)
            try simp only [Act.put, List.setIfInBounds_toArray, List.set_cons_zero, List.set_cons_succ]
            refine wpAnyH_take (i := 12) (v := ?_) (by simp only [List.getElem?_toArray, List.getElem?_cons_succ, List.getElem?_cons_zero]; rfl) (by kernel_rfl) (by kernel_rfl) (by kernel_rfl) (fun _ _ _ h => h) (Or.inl ⟨by rfl, ?_⟩) (by assumption) ?_
            rotate_left 1
            · (intro w hSw; (try dsimp only at hSw); go_simp; try with_reducible rfl)
            try simp only [Act.put, List.setIfInBounds_toArray, List.set_cons_zero, List.set_cons_succ]
            refine wpAnyH_ready (rs := [11]) (by kernel_rfl) (by simp) ?_
            refine AllReadyH.cons (by simp only [List.getElem?_toArray, List.getElem?_cons_succ, List.getElem?_cons_zero]; rfl) (fun K hK => ?_) ?_
            rotate_left 1
            · exact AllReadyH.nil
            go_simp
            refine (pref_any qe qc qn qf wd).mono ?_; rintro e w10 ⟨rfl, hb⟩; replace K13 := hide (K13.out.below hb); replace K16 := hide (K16.out.below hb); have P8 := hide (P7.out.below hb); clear hb P7
            refine hK.out _ _ ?_ (fun hHeld2 => ?_)
            · ((try dsimp only) <;> (exact rest_cells K13.out K16.out P8.out.bk))
            clear hHeld
            have hHeld := hHeld2
            clear hHeld2 hK K
            try simp only [Act.put, List.setIfInBounds_toArray, List.set_cons_zero, List.set_cons_succ]
            have EQ' := EQ.out
            refine wpAnyH_take (i := 13) (v := ?_) (by simp only [List.getElem?_toArray, List.getElem?_cons_succ, List.getElem?_cons_zero]; rfl) (by kernel_rfl) (by kernel_rfl) (by kernel_rfl) (fun _ _ _ h => h) (Or.inl ⟨by rfl, ?_⟩) (by assumption) ?_
            rotate_left 1
            · (intro w hSw; (try dsimp only at hSw); go_simp; try with_reducible rfl)
            try simp only [Act.put, List.setIfInBounds_toArray, List.set_cons_zero, List.set_cons_succ]
            refine wpAnyH_take (i := 14) (v := ?_) (by simp only [List.getElem?_toArray, List.getElem?_cons_succ, List.getElem?_cons_zero]; rfl) (by kernel_rfl) (by kernel_rfl) (by kernel_rfl) (fun _ _ _ h => h) (Or.inl ⟨by rfl, ?_⟩) (by assumption) ?_
            rotate_left 1
            · (intro w hSw; (try dsimp only at hSw); go_simp; try with_reducible rfl)
            try simp only [Act.put, List.setIfInBounds_toArray, List.set_cons_zero, List.set_cons_succ]
            refine wpAnyH_take (i := 15) (v := ?_) (by simp only [List.getElem?_toArray, List.getElem?_cons_succ, List.getElem?_cons_zero]; rfl) (by kernel_rfl) (by kernel_rfl) (by kernel_rfl) (fun _ _ _ h => h) (Or.inl ⟨by rfl, ?_⟩) (by assumption) ?_
            rotate_left 1
            · (intro w hSw; (try dsimp only at hSw); go_simp; try with_reducible rfl)
            try simp only [Act.put, List.setIfInBounds_toArray, List.set_cons_zero, List.set_cons_succ]
            refine wpAnyH_take (i := 16) (v := ?_) (by simp only [List.getElem?_toArray, List.getElem?_cons_succ, List.getElem?_cons_zero]; rfl) (by kernel_rfl) (by kernel_rfl) (by kernel_rfl) (fun _ _ _ h => h) (Or.inl ⟨by rfl, ?_⟩) (by assumption) ?_
            rotate_left 1
            · (intro w hSw; (try dsimp only at hSw); go_simp; try with_reducible rfl)
            try simp only [Act.put, List.setIfInBounds_toArray, List.set_cons_zero, List.set_cons_succ]
            refine wpAnyH_take (i := 17) (v := ?_) (by simp only [List.getElem?_toArray, List.getElem?_cons_succ, List.getElem?_cons_zero]; rfl) (by kernel_rfl) (by kernel_rfl) (by kernel_rfl) (fun _ _ _ h => h) (Or.inl ⟨by rfl, ?_⟩) (by assumption) ?_
            rotate_left 1
            · (intro w hSw; (try dsimp only at hSw); go_simp; try with_reducible rfl)
            try simp only [Act.put, List.setIfInBounds_toArray, List.set_cons_zero, List.set_cons_succ]
            clear EQ'
            refine wpAnyH_ready (rs := [18]) (by kernel_rfl) (by simp) ?_
            refine AllReadyH.cons (by simp only [List.getElem?_toArray, List.getElem?_cons_succ, List.getElem?_cons_zero]; rfl) (fun K hK => ?_) ?_
            rotate_left 1
            · exact AllReadyH.nil
            go_simp
            have CT := tells_any w10 d' D' w.heap.size As' cs' Aq' cq' P8.out.pj.ld P8.out.pj.rm; rw [refV_eq] at CT; refine CT.mono ?_; rintro e w11 ⟨rfl, hb⟩; replace K13 := hide (K13.out.below hb); replace K16 := hide (K16.out.below hb); have P9 := hide (P8.out.below hb); clear hb P8 CT
            refine hK.out _ _ ?_ (fun hHeld2 => ?_)
            · ((try dsimp only) <;> (exact rest_cells K13.out K16.out P9.out.bk))
            clear hHeld
            have hHeld := hHeld2
            clear hHeld2 hK K
            try simp only [Act.put, List.setIfInBounds_toArray, List.set_cons_zero, List.set_cons_succ]
            refine wpAnyH_take (i := 19) (v := ?_) (by simp only [List.getElem?_toArray, List.getElem?_cons_succ, List.getElem?_cons_zero]; rfl) (by kernel_rfl) (by kernel_rfl) (by kernel_rfl) (fun _ _ _ h => h) (Or.inl ⟨by rfl, ?_⟩) (by assumption) ?_
            rotate_left 1
            · (intro w hSw; (try dsimp only at hSw); go_simp; try with_reducible rfl)
            try simp only [Act.put, List.setIfInBounds_toArray, List.set_cons_zero, List.set_cons_succ]
            refine wpAnyH_take (i := 20) (v := ?_) (by simp only [List.getElem?_toArray, List.getElem?_cons_succ, List.getElem?_cons_zero]; rfl) (by kernel_rfl) (by kernel_rfl) (by kernel_rfl) (fun _ _ _ h => h) (Or.inl ⟨by rfl, ?_⟩) (by assumption) ?_
            rotate_left 1
            · (intro w hSw; (try dsimp only at hSw); go_simp; try with_reducible rfl)
            try simp only [Act.put, List.setIfInBounds_toArray, List.set_cons_zero, List.set_cons_succ]
            refine wpAnyH_done (by kernel_rfl) ?_ _
            refine NoPanic.normal ?_
            clear hHeld K13 K16 EQ
            go_wp2_with fail
            go_roundw
            case rel => exact ⟨i + 1, d', D', As', cs', Aq', cq', by omega, by omega, rfl, by go_num, P9.out, by have := NR.out.1; have := H2.out; omega, by have := NR.out.2.1; have := H3.out; omega, by rw [NR.out.2.2]; exact H4.out⟩
            case measure => simp [intOf]; omega
    · by_cases hlt2 : i < m
      · have h60 : ¬ i < 40 := fun h => hlt ⟨hlt2, h⟩
        clear hlt
        go_wp2_with fail
        go_ret
        exact ⟨rfl, H1.out.pj.ld.bel⟩
      · clear hlt
        go_wp2_with fail
        go_ret
        exact ⟨rfl, H1.out.pj.ld.bel⟩
theorem pplays_all (n : Int) (A : Option Addr) (m c : Nat) (os : List OpT) (w : World) (ho : OpsT w A m os) (hm : m ≤ 9223372036854775807) :
    Calls Try.prog 8 #[.int .i64 n, .slice A m c] w fun e w' => e = .returned (.bool true) ∧ Below w.heap.size w w' := by
  by_cases hn : 1 ≤ n ∧ n ≤ 20
  · obtain ⟨k, rfl⟩ : ∃ k : Nat, n = (k : Int) := ⟨n.toNat, by omega⟩
    exact pplays_yes k A m c os w ho hm (by omega) (by omega)
  · exact pplays_no n A m c w hn
end Go.Proofs.Ytfaingklglelnaa
