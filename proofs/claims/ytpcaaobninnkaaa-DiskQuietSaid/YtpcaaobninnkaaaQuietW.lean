/- The walk of marllaw02.DiskQuiet. -/
import Derived.Test.YtpcaaobninnkaaaPlAny
import Derived.Test.YtpcaaobninnkaaaDrfNW
namespace Go.Proofs.Ytpcaaobninnkaaa
open Go.RowKit
attribute [local go_sem ↓] Go.wp_at_zero Go.wp_at_succ

theorem ld_read_any {w0 w : World} {d : Nat} {D : Dsk} (h : LD w0 w d D) (x : Int) : Calls Try.prog 13 #[.pointer (some ⟨d, 0, none⟩), .int .i64 x] w fun e w' => (∃ v, e = .returned v) ∧ Below w.heap.size w w' := by
  by_cases hx : 0 ≤ x ∧ x < D.sure.length
  · obtain ⟨k, rfl⟩ : ∃ k : Nat, x = (k : Int) := ⟨x.toNat, by omega⟩
    exact (ld_read h k (by omega)).mono fun e w' ⟨g, he, _, _, hb⟩ => ⟨⟨_, he⟩, hb⟩
  · exact (ld_read_no h x hx).mono fun e w' ⟨he, hw⟩ => ⟨⟨_, he⟩, by rw [← hw]; exact Below.refl _ _⟩
theorem bools_new2 (w : World) : Sl (w.alloc (.cells #[.bool true, .bool false] 4)) (w.heap.size + 1) (some ⟨w.heap.size, 0, none⟩) 2 ([true, false].map Value.bool) := by
  refine ⟨rfl, fun j u hu => ⟨_, rfl, by simp, ?_⟩⟩
  rw [Addr.add_mid, Nat.zero_add, (Blk.new w _ _).cell]
  simpa using hu
theorem int_at {w : World} {B n : Nat} {A : Option Addr} {l : List Int} (h : Sl w B A n (l.map (Value.int .i64))) (hw : ∀ x ∈ l, (Lit.int .i64 x).wf = true) {j : Nat} (hj : j < n) : ∃ ad x, A = some ad ∧ (-9223372036854775808 ≤ x ∧ x ≤ 9223372036854775807) ∧ w.cell? (ad.add j) = some (.int .i64 x) := by
  obtain ⟨ad, u, hA, -, hu, hc⟩ := h.get hj
  have hl := h.len
  rw [List.length_map] at hl
  rw [List.getElem?_map, List.getElem?_eq_getElem (by omega)] at hu
  simp only [Option.map_some, Option.some.injEq] at hu
  exact ⟨ad, l[j]'(by omega), hA, wf_bd_i64 (hw _ (List.getElem_mem _)), by rw [hc, ← hu]⟩

set_option maxHeartbeats 1000000 in
set_option maxRecDepth 100000 in
theorem quiet_few (A : Option Addr) (m c : Nat) (os : List OpL) (Ar : Option Addr) (nr cr : Nat) (rs : List Int) (w : World) (ho : OpsAt w A m os) (hm : m ≤ 9223372036854775807) (hr0 : Sl w w.heap.size Ar nr (rs.map (Value.int .i64))) (hrs : ∀ x ∈ rs, (Lit.int .i64 x).wf = true) (hnr : nr ≤ cr ∧ cr ≤ 9223372036854775807) (h30 : ¬ 30 < nr) :
    Calls Try.prog 9 #[.slice A m c, .slice Ar nr cr] w fun e w' => e = .returned (.bool true) ∧ Below w.heap.size w w' := by
  have HR := hide hr0
  have HW := hide hrs
  have hcut := fun w => run_cut_h etyI Ar nr cr w nr .i64 (by omega)
  obtain ⟨hnr1, hnr2⟩ := hnr
  clear hr0 hrs
  go_enter Try.func9, Try.ntmps9
  go_wp2_with fail
  have HO := hide ho
  clear ho
  refine (awake_any _).mono ?_
  rintro e w1 ⟨rfl, hb1⟩
  have B1 := hide hb1
  clear hb1
  go_wp2_with fail
  refine (ld_new' w1 7 _ rfl (by omega) (by omega)).mono ?_
  rintro e w2 ⟨d, rfl, hd⟩
  have L2 := hide hd
  clear hd
  go_wp2_with fail
  have C3 := rnew_yes 7 w2 (by omega) (by omega)
  refine C3.mono ?_
  rintro e w3 ⟨As, cs, rfl, hrm, hb3⟩
  have P0 := hide (PB.start B1.out L2.out hrm hb3)
  obtain ⟨D0, hD0⟩ : ∃ D, D = freshD 7 := ⟨_, rfl⟩
  rw [← hD0] at P0
  have hs0 : Hid (D0.steps = 0 ∧ D0.queue.length = 0 ∧ D0.sure.length = 7) := hide (by rw [hD0]; exact ⟨rfl, rfl, by show (List.replicate _ _).length = _; rw [List.length_replicate]⟩)
  rw [← hD0, refV_eq]
  have hq0 : Hid (D0.queue.length = 0) := hide hs0.out.2.1
  clear C3 hrm hb3 hD0
  rw [refV_eq] at P0
  go_wp2_with fail
  go_loopw [5, 9, 10] (fun x k y wr => ∃ (i d : Nat) (D : Dsk) (As : Option Addr) (cs : Nat) (Aq : Option Addr) (cq : Nat), i ≤ 30 ∧ i ≤ m ∧ x = .pointer (some ⟨d, 0, none⟩) ∧ k = .bool true ∧ y = .int .i64 (i : Int) ∧ PB w wr w3.heap.size d D As cs Aq cq ∧ D.steps ≤ i ∧ D.queue.length ≤ i ∧ D.sure.length = 7) (fun _ _ y _ => m - (intOf y).toNat)
  case atStart => exact ⟨0, d, D0, As, cs, none, 0, by omega, by omega, rfl, rfl, rfl, P0.out, by rw [hs0.out.1]; exact Nat.le_refl _, by rw [hs0.out.2.1]; exact Nat.le_refl _, hs0.out.2.2⟩
  case round =>
    clear P0 hs0 hq0 L2
    obtain ⟨i, d, D, As, cs, Aq, cq, hi, him, rfl, rfl, rfl, h1, h2, h3, h4⟩ := hrel
    have H1 := hide h1
    have H2 := hide h2
    have H3 := hide h3
    have H4 := hide h4
    clear h1 h2 h3 h4
    by_cases hlt : i < m ∧ i < 30
    · obtain ⟨hlt, hlt6⟩ := hlt
      obtain ⟨b, off, hA, hbl, hat⟩ := HO.out.at (by omega)
      obtain ⟨o, hoa, hoc⟩ := hat i hlt
      obtain ⟨q0, q1, q2, q3, q4, q5⟩ := op_cells hbl hoc H1.out.pj.ld.bel.drew
      have HOA := hide hoa
      have HAT := hide (And.intro hbl hoc)
      subst hA
      clear hat hoa hoc hbl
      obtain ⟨c0, c1, c2, c3, f0, f1, f2, f3⟩ := blk4 H1.out.bk.drew
      go_upto_region 11 with fail
      refine wp_region_noPanic ?_
      refine wp_region_held_drew (S := (fun w' => w'.cell? ⟨b, off + i * 6, none⟩ = some (.int .i64 o.kind) ∧ w'.cell? ⟨b, off + i * 6 + 1, none⟩ = some (.int .i64 o.n) ∧ w'.cell? ⟨b, off + i * 6 + 2, none⟩ = some (.int .i64 o.sectors) ∧ w'.cell? ⟨b, off + i * 6 + 3, none⟩ = some (.slice o.bA o.bn o.bc) ∧ w'.cell? ⟨b, off + i * 6 + 4, none⟩ = some (.bool o.raw) ∧ w'.cell? ⟨b, off + i * 6 + 5, none⟩ = some (.slice o.kA o.kn o.kc))) (by kernel_rfl) ?_ (fun hHeld => ?_)
      · ((try dsimp only) <;> (first | trivial | assumption | go_keep))
      refine wpAnyH_take (i := 0) (v := ?_) (by simp only [List.getElem?_toArray, List.getElem?_cons_succ, List.getElem?_cons_zero]; rfl) (by kernel_rfl) (by kernel_rfl) (by kernel_rfl) (fun _ _ _ h => h) (Or.inl ⟨by rfl, ?_⟩) (by assumption) ?_
      rotate_left 1
      · (intro w hSw; (try dsimp only at hSw); go_simp; try with_reducible rfl)
      try simp only [Act.put, List.setIfInBounds_toArray, List.set_cons_zero, List.set_cons_succ]
      refine wpAnyH_take (i := 2) (v := ?_) (by simp only [List.getElem?_toArray, List.getElem?_cons_succ, List.getElem?_cons_zero]; rfl) (by kernel_rfl) (by kernel_rfl) (by kernel_rfl) (fun _ _ _ h => h) (Or.inl ⟨by rfl, ?_⟩) (by assumption) ?_
      rotate_left 1
      · (intro w hSw; (try dsimp only at hSw); go_simp; try with_reducible rfl)
      try simp only [Act.put, List.setIfInBounds_toArray, List.set_cons_zero, List.set_cons_succ]
      refine wpAnyH_take (i := 3) (v := ?_) (by simp only [List.getElem?_toArray, List.getElem?_cons_succ, List.getElem?_cons_zero]; rfl) (by kernel_rfl) (by kernel_rfl) (by kernel_rfl) (fun _ _ _ h => h) (Or.inl ⟨by rfl, ?_⟩) (by assumption) ?_
      rotate_left 1
      · (intro w hSw; (try dsimp only at hSw); go_simp; try with_reducible rfl)
      try simp only [Act.put, List.setIfInBounds_toArray, List.set_cons_zero, List.set_cons_succ]
      refine wpAnyH_take (i := 4) (v := ?_) (by simp only [List.getElem?_toArray, List.getElem?_cons_succ, List.getElem?_cons_zero]; rfl) (by kernel_rfl) (by kernel_rfl) (by kernel_rfl) (fun _ _ _ h => h) (Or.inl ⟨by rfl, ?_⟩) (by assumption) ?_
      rotate_left 1
      · (intro w hSw; (try dsimp only at hSw); go_simp; try with_reducible rfl)
      try simp only [Act.put, List.setIfInBounds_toArray, List.set_cons_zero, List.set_cons_succ]
      refine wpAnyH_take (i := 5) (v := ?_) (by simp only [List.getElem?_toArray, List.getElem?_cons_succ, List.getElem?_cons_zero]; rfl) (by kernel_rfl) (by kernel_rfl) (by kernel_rfl) (fun _ _ _ h => h) (Or.inl ⟨by rfl, ?_⟩) (by assumption) ?_
      rotate_left 1
      · (intro w hSw; (try dsimp only at hSw); go_simp; try with_reducible rfl)
      try simp only [Act.put, List.setIfInBounds_toArray, List.set_cons_zero, List.set_cons_succ]
      refine wpAnyH_ready (rs := [1]) (by kernel_rfl) (by simp) ?_
      refine AllReadyH.cons (by simp only [List.getElem?_toArray, List.getElem?_cons_succ, List.getElem?_cons_zero]; rfl) (fun K hK => ?_) ?_
      rotate_left 1
      · exact AllReadyH.nil
      go_simp
      refine hK.out _ _ ?_ (fun hHeld2 => ?_)
      · ((try dsimp only) <;> (first | trivial | assumption | go_keep))
      clear hHeld
      have hHeld := hHeld2
      clear hHeld2 hK K
      try simp only [Act.put, List.setIfInBounds_toArray, List.set_cons_zero, List.set_cons_succ]
      refine wpAnyH_ready (rs := [6]) (by kernel_rfl) (by simp) ?_
      refine AllReadyH.cons (by simp only [List.getElem?_toArray, List.getElem?_cons_succ, List.getElem?_cons_zero]; rfl) (fun K hK => ?_) ?_
      rotate_left 1
      · exact AllReadyH.nil
      go_simp
      have CP := play_any H1.out.pj.drew o HOA.out (by have := H2.out; omega) (by have := H3.out; omega) (by have := H4.out; omega); rw [refV_eq] at CP; unfold opV at CP; refine CP.mono ?_; rintro e w6 ⟨d', D', As', cs', Aq', cq', rfl, hp, hf, l1, l2, l3⟩; have N := hide (PB.next H1.out.drew hp hf); have HP := hide hp; have L1 := hide l1; have L2 := hide l2; have L3 := hide l3; clear hp hf l1 l2 l3 CP c0 c1 c2 c3 f0 f1 f2 f3; rw [refV_eq]; obtain ⟨c0, c1, c2, c3, f0, f1, f2, f3⟩ := blk4 N.out.1; go_wp2_with fail
      refine hK.out _ _ ?_ (fun hHeld2 => ?_)
      · ((try dsimp only) <;> (exact op_cells HAT.out.1 HAT.out.2 HP.out.ld.bel))
      clear hHeld
      have hHeld := hHeld2
      clear hHeld2 hK K
      try simp only [Act.put, List.setIfInBounds_toArray, List.set_cons_zero, List.set_cons_succ]
      refine wpAnyH_take (i := 7) (v := ?_) (by simp only [List.getElem?_toArray, List.getElem?_cons_succ, List.getElem?_cons_zero]; rfl) (by kernel_rfl) (by kernel_rfl) (by kernel_rfl) (fun _ _ _ h => h) (Or.inl ⟨by rfl, ?_⟩) (by assumption) ?_
      rotate_left 1
      · (intro w hSw; (try dsimp only at hSw); go_simp; try with_reducible rfl)
      try simp only [Act.put, List.setIfInBounds_toArray, List.set_cons_zero, List.set_cons_succ]
      refine wpAnyH_take (i := 8) (v := ?_) (by simp only [List.getElem?_toArray, List.getElem?_cons_succ, List.getElem?_cons_zero]; rfl) (by kernel_rfl) (by kernel_rfl) (by kernel_rfl) (fun _ _ _ h => h) (Or.inl ⟨by rfl, ?_⟩) (by assumption) ?_
      rotate_left 1
      · (intro w hSw; (try dsimp only at hSw); go_simp; try with_reducible rfl)
      try simp only [Act.put, List.setIfInBounds_toArray, List.set_cons_zero, List.set_cons_succ]
      refine wpAnyH_take (i := 9) (v := ?_) (by simp only [List.getElem?_toArray, List.getElem?_cons_succ, List.getElem?_cons_zero]; rfl) (by kernel_rfl) (by kernel_rfl) (by kernel_rfl) (fun _ _ _ h => h) (Or.inl ⟨by rfl, ?_⟩) (by assumption) ?_
      rotate_left 1
      · (intro w hSw; (try dsimp only at hSw); go_simp; try with_reducible rfl)
      try simp only [Act.put, List.setIfInBounds_toArray, List.set_cons_zero, List.set_cons_succ]
      refine wpAnyH_take (i := 10) (v := ?_) (by simp only [List.getElem?_toArray, List.getElem?_cons_succ, List.getElem?_cons_zero]; rfl) (by kernel_rfl) (by kernel_rfl) (by kernel_rfl) (fun _ _ _ h => h) (Or.inl ⟨by rfl, ?_⟩) (by assumption) ?_
      rotate_left 1
      · (intro w hSw; (try dsimp only at hSw); go_simp; try with_reducible rfl)
      try simp only [Act.put, List.setIfInBounds_toArray, List.set_cons_zero, List.set_cons_succ]
      refine wpAnyH_take (i := 11) (v := ?_) (by simp only [List.getElem?_toArray, List.getElem?_cons_succ, List.getElem?_cons_zero]; rfl) (by kernel_rfl) (by kernel_rfl) (by kernel_rfl) (fun _ _ _ h => h) (Or.inl ⟨by rfl, ?_⟩) (by assumption) ?_
      rotate_left 1
      · (intro w hSw; (try dsimp only at hSw); go_simp; try with_reducible rfl)
      try simp only [Act.put, List.setIfInBounds_toArray, List.set_cons_zero, List.set_cons_succ]
      refine wpAnyH_ready (rs := [12]) (by kernel_rfl) (by simp) ?_
      refine AllReadyH.cons (by simp only [List.getElem?_toArray, List.getElem?_cons_succ, List.getElem?_cons_zero]; rfl) (fun K hK => ?_) ?_
      rotate_left 1
      · exact AllReadyH.nil
      go_simp
      refine hK.out _ _ ?_ (fun hHeld2 => ?_)
      · ((try dsimp only) <;> (exact op_cells HAT.out.1 HAT.out.2 N.out.2.pj.ld.bel))
      clear hHeld
      have hHeld := hHeld2
      clear hHeld2 hK K
      try simp only [Act.put, List.setIfInBounds_toArray, List.set_cons_zero, List.set_cons_succ]
      refine wpAnyH_take (i := 13) (v := ?_) (by simp only [List.getElem?_toArray, List.getElem?_cons_succ, List.getElem?_cons_zero]; rfl) (by kernel_rfl) (by kernel_rfl) (by kernel_rfl) (fun _ _ _ h => h) (Or.inl ⟨by rfl, ?_⟩) (by assumption) ?_
      rotate_left 1
      · (intro w hSw; (try dsimp only at hSw); go_simp; try with_reducible rfl)
      try simp only [Act.put, List.setIfInBounds_toArray, List.set_cons_zero, List.set_cons_succ]
      refine wpAnyH_done (by kernel_rfl) ?_ _
      refine NoPanic.normal ?_
      have N2 := hide N.out.2
      clear hHeld N HP c0 c1 c2 c3 f0 f1 f2 f3 q0 q1 q2 q3 q4 q5 HAT HOA H1
      go_wp2_with fail
      go_roundw
      case rel => exact ⟨i + 1, d', D', As', cs', Aq', cq', by omega, by omega, rfl, rfl, by go_num, N2.out, by have := L2.out; have := H2.out; omega, by have := L3.out; have := H3.out; omega, by rw [L1.out]; exact H4.out⟩
      case measure => simp [intOf]; omega
    · have hout : (i < m ∧ ¬ i < 30) ∨ ¬ i < m := by omega
      clear hlt
      rcases hout with ⟨hm1, hm2⟩ | hm1
      all_goals
        go_wp2_with fail
        go_loopw [62] (fun x wz => ∃ j : Nat, j ≤ nr ∧ x = .int .i64 (j : Int) ∧ PB w wz w3.heap.size d D As cs Aq cq) (fun x _ => nr - (intOf x).toNat)
        case atStart => exact ⟨0, by omega, rfl, H1.out⟩
        case round =>
          obtain ⟨j, hj, rfl, hbz⟩ := hrel
          have HZ := hide hbz
          clear hbz H1
          by_cases hlt : j < nr
          · obtain ⟨ad, x, hA, hxw, hxc⟩ := int_at (HR.out.below HZ.out.pj.ld.bel) HW.out (show j < nr by omega)
            subst hA
            go_wp2_with fail
            refine (ld_read_any HZ.out.pj.ld x).mono ?_
            rintro e w4 ⟨⟨v, rfl⟩, hb4⟩
            have Z4 := hide (HZ.out.below hb4)
            clear hb4 hxc HZ
            go_wp2_with fail
            refine (ld_crash (Z4.out.pj.ld.alloc _) (by have := H4.out; omega) (w4.heap.size + 1) _ 2 2 [true, false] (bools_new2 w4) (by simp) (by decide) x x).mono ?_
            rintro e w5 ⟨c5, cap5, pad5, rfl, h5⟩
            have Z5 := hide ((Z4.out.alloc (.cells #[.bool true, .bool false] 4)).below h5.bel)
            clear h5 Z4
            go_wp2_with fail
            refine (ld_queue Z5.out.pj.ld).mono ?_
            rintro e w6 ⟨A6, c6, rfl, ho6, hb6⟩
            have Z6 := hide (Z5.out.below hb6)
            have HB6 := hide hb6
            by_cases hq0 : D.queue.length = 0
            · have hq1 : decide (0 < D.queue.length) = false := by simp [hq0]
              clear ho6 hb6 Z5 hq0
              go_wp2_with fail
              go_roundw
              case rel => exact ⟨j + 1, by omega, by go_num, Z6.out⟩
              case measure => simp [intOf]; omega
            · have hq1 : decide (0 < D.queue.length) = true := by simp; omega
              have hq2 : 0 < D.queue.length := by omega
              obtain ⟨g, u, hA6, hg1, hg2, hg3, hg4, -⟩ := own_set ho6 hq2
              subst hA6
              have Z7 := hide (Z5.out.below (hb6.setCell (p := ⟨g, 0, none⟩) hg1 (.int .i64 99)))
              clear ho6 hb6 Z5 Z6 HB6 hq0 hg1 hg2
              go_wp2_with fail
              go_roundw
              case rel => exact ⟨j + 1, by omega, by go_num, Z7.out⟩
              case measure => simp [intOf]; omega
          · obtain ⟨c0, c1, c2, c3, -⟩ := blk4 HZ.out.bk
            go_wp2_with fail
            have CT := tells_any wr d D w.heap.size As cs Aq cq HZ.out.pj.ld HZ.out.pj.rm
            rw [refV_eq] at CT
            refine CT.mono ?_
            rintro e w8 ⟨rfl, hb8⟩
            have N3 := hide (HZ.out.below hb8)
            clear hb8 CT c0 c1 c2 c3 HZ
            go_wp2_with fail
            go_ret
            exact ⟨rfl, N3.out.pj.ld.bel⟩

set_option maxHeartbeats 1000000 in
set_option maxRecDepth 100000 in
theorem quiet_more (A : Option Addr) (m c : Nat) (os : List OpL) (Ar : Option Addr) (nr cr : Nat) (rs : List Int) (w : World) (ho : OpsAt w A m os) (hm : m ≤ 9223372036854775807) (hr0 : Sl w w.heap.size Ar nr (rs.map (Value.int .i64))) (hrs : ∀ x ∈ rs, (Lit.int .i64 x).wf = true) (hnr : nr ≤ cr ∧ cr ≤ 9223372036854775807) (h30 : 30 < nr) :
    Calls Try.prog 9 #[.slice A m c, .slice Ar nr cr] w fun e w' => e = .returned (.bool true) ∧ Below w.heap.size w w' := by
  have HR := hide hr0
  have HW := hide hrs
  have hcut := fun w => run_cut_h etyI Ar nr cr w 30 .i64 (by omega)
  obtain ⟨hnr1, hnr2⟩ := hnr
  clear hr0 hrs
  go_enter Try.func9, Try.ntmps9
  go_wp2_with fail
  have HO := hide ho
  clear ho
  refine (awake_any _).mono ?_
  rintro e w1 ⟨rfl, hb1⟩
  have B1 := hide hb1
  clear hb1
  go_wp2_with fail
  refine (ld_new' w1 7 _ rfl (by omega) (by omega)).mono ?_
  rintro e w2 ⟨d, rfl, hd⟩
  have L2 := hide hd
  clear hd
  go_wp2_with fail
  have C3 := rnew_yes 7 w2 (by omega) (by omega)
  refine C3.mono ?_
  rintro e w3 ⟨As, cs, rfl, hrm, hb3⟩
  have P0 := hide (PB.start B1.out L2.out hrm hb3)
  obtain ⟨D0, hD0⟩ : ∃ D, D = freshD 7 := ⟨_, rfl⟩
  rw [← hD0] at P0
  have hs0 : Hid (D0.steps = 0 ∧ D0.queue.length = 0 ∧ D0.sure.length = 7) := hide (by rw [hD0]; exact ⟨rfl, rfl, by show (List.replicate _ _).length = _; rw [List.length_replicate]⟩)
  rw [← hD0, refV_eq]
  have hq0 : Hid (D0.queue.length = 0) := hide hs0.out.2.1
  clear C3 hrm hb3 hD0
  rw [refV_eq] at P0
  go_wp2_with fail
  go_loopw [5, 9, 10] (fun x k y wr => ∃ (i d : Nat) (D : Dsk) (As : Option Addr) (cs : Nat) (Aq : Option Addr) (cq : Nat), i ≤ 30 ∧ i ≤ m ∧ x = .pointer (some ⟨d, 0, none⟩) ∧ k = .bool true ∧ y = .int .i64 (i : Int) ∧ PB w wr w3.heap.size d D As cs Aq cq ∧ D.steps ≤ i ∧ D.queue.length ≤ i ∧ D.sure.length = 7) (fun _ _ y _ => m - (intOf y).toNat)
  case atStart => exact ⟨0, d, D0, As, cs, none, 0, by omega, by omega, rfl, rfl, rfl, P0.out, by rw [hs0.out.1]; exact Nat.le_refl _, by rw [hs0.out.2.1]; exact Nat.le_refl _, hs0.out.2.2⟩
  case round =>
    clear P0 hs0 hq0 L2
    obtain ⟨i, d, D, As, cs, Aq, cq, hi, him, rfl, rfl, rfl, h1, h2, h3, h4⟩ := hrel
    have H1 := hide h1
    have H2 := hide h2
    have H3 := hide h3
    have H4 := hide h4
    clear h1 h2 h3 h4
    by_cases hlt : i < m ∧ i < 30
    · obtain ⟨hlt, hlt6⟩ := hlt
      obtain ⟨b, off, hA, hbl, hat⟩ := HO.out.at (by omega)
      obtain ⟨o, hoa, hoc⟩ := hat i hlt
      obtain ⟨q0, q1, q2, q3, q4, q5⟩ := op_cells hbl hoc H1.out.pj.ld.bel.drew
      have HOA := hide hoa
      have HAT := hide (And.intro hbl hoc)
      subst hA
      clear hat hoa hoc hbl
      obtain ⟨c0, c1, c2, c3, f0, f1, f2, f3⟩ := blk4 H1.out.bk.drew
      go_upto_region 11 with fail
      refine wp_region_noPanic ?_
      refine wp_region_held_drew (S := (fun w' => w'.cell? ⟨b, off + i * 6, none⟩ = some (.int .i64 o.kind) ∧ w'.cell? ⟨b, off + i * 6 + 1, none⟩ = some (.int .i64 o.n) ∧ w'.cell? ⟨b, off + i * 6 + 2, none⟩ = some (.int .i64 o.sectors) ∧ w'.cell? ⟨b, off + i * 6 + 3, none⟩ = some (.slice o.bA o.bn o.bc) ∧ w'.cell? ⟨b, off + i * 6 + 4, none⟩ = some (.bool o.raw) ∧ w'.cell? ⟨b, off + i * 6 + 5, none⟩ = some (.slice o.kA o.kn o.kc))) (by kernel_rfl) ?_ (fun hHeld => ?_)
      · ((try dsimp only) <;> (first | trivial | assumption | go_keep))
      refine wpAnyH_take (i := 0) (v := ?_) (by simp only [List.getElem?_toArray, List.getElem?_cons_succ, List.getElem?_cons_zero]; rfl) (by kernel_rfl) (by kernel_rfl) (by kernel_rfl) (fun _ _ _ h => h) (Or.inl ⟨by rfl, ?_⟩) (by assumption) ?_
      rotate_left 1
      · (intro w hSw; (try dsimp only at hSw); go_simp; try with_reducible rfl)
      try simp only [Act.put, List.setIfInBounds_toArray, List.set_cons_zero, List.set_cons_succ]
      refine wpAnyH_take (i := 2) (v := ?_) (by simp only [List.getElem?_toArray, List.getElem?_cons_succ, List.getElem?_cons_zero]; rfl) (by kernel_rfl) (by kernel_rfl) (by kernel_rfl) (fun _ _ _ h => h) (Or.inl ⟨by rfl, ?_⟩) (by assumption) ?_
      rotate_left 1
      · (intro w hSw; (try dsimp only at hSw); go_simp; try with_reducible rfl)
      try simp only [Act.put, List.setIfInBounds_toArray, List.set_cons_zero, List.set_cons_succ]
      refine wpAnyH_take (i := 3) (v := ?_) (by simp only [List.getElem?_toArray, List.getElem?_cons_succ, List.getElem?_cons_zero]; rfl) (by kernel_rfl) (by kernel_rfl) (by kernel_rfl) (fun _ _ _ h => h) (Or.inl ⟨by rfl, ?_⟩) (by assumption) ?_
      rotate_left 1
      · (intro w hSw; (try dsimp only at hSw); go_simp; try with_reducible rfl)
      try simp only [Act.put, List.setIfInBounds_toArray, List.set_cons_zero, List.set_cons_succ]
      refine wpAnyH_take (i := 4) (v := ?_) (by simp only [List.getElem?_toArray, List.getElem?_cons_succ, List.getElem?_cons_zero]; rfl) (by kernel_rfl) (by kernel_rfl) (by kernel_rfl) (fun _ _ _ h => h) (Or.inl ⟨by rfl, ?_⟩) (by assumption) ?_
      rotate_left 1
      · (intro w hSw; (try dsimp only at hSw); go_simp; try with_reducible rfl)
      try simp only [Act.put, List.setIfInBounds_toArray, List.set_cons_zero, List.set_cons_succ]
      refine wpAnyH_take (i := 5) (v := ?_) (by simp only [List.getElem?_toArray, List.getElem?_cons_succ, List.getElem?_cons_zero]; rfl) (by kernel_rfl) (by kernel_rfl) (by kernel_rfl) (fun _ _ _ h => h) (Or.inl ⟨by rfl, ?_⟩) (by assumption) ?_
      rotate_left 1
      · (intro w hSw; (try dsimp only at hSw); go_simp; try with_reducible rfl)
      try simp only [Act.put, List.setIfInBounds_toArray, List.set_cons_zero, List.set_cons_succ]
      refine wpAnyH_ready (rs := [1]) (by kernel_rfl) (by simp) ?_
      refine AllReadyH.cons (by simp only [List.getElem?_toArray, List.getElem?_cons_succ, List.getElem?_cons_zero]; rfl) (fun K hK => ?_) ?_
      rotate_left 1
      · exact AllReadyH.nil
      go_simp
      refine hK.out _ _ ?_ (fun hHeld2 => ?_)
      · ((try dsimp only) <;> (first | trivial | assumption | go_keep))
      clear hHeld
      have hHeld := hHeld2
      clear hHeld2 hK K
      try simp only [Act.put, List.setIfInBounds_toArray, List.set_cons_zero, List.set_cons_succ]
      refine wpAnyH_ready (rs := [6]) (by kernel_rfl) (by simp) ?_
      refine AllReadyH.cons (by simp only [List.getElem?_toArray, List.getElem?_cons_succ, List.getElem?_cons_zero]; rfl) (fun K hK => ?_) ?_
      rotate_left 1
      · exact AllReadyH.nil
      go_simp
      have CP := play_any H1.out.pj.drew o HOA.out (by have := H2.out; omega) (by have := H3.out; omega) (by have := H4.out; omega); rw [refV_eq] at CP; unfold opV at CP; refine CP.mono ?_; rintro e w6 ⟨d', D', As', cs', Aq', cq', rfl, hp, hf, l1, l2, l3⟩; have N := hide (PB.next H1.out.drew hp hf); have HP := hide hp; have L1 := hide l1; have L2 := hide l2; have L3 := hide l3; clear hp hf l1 l2 l3 CP c0 c1 c2 c3 f0 f1 f2 f3; rw [refV_eq]; obtain ⟨c0, c1, c2, c3, f0, f1, f2, f3⟩ := blk4 N.out.1; go_wp2_with fail
      refine hK.out _ _ ?_ (fun hHeld2 => ?_)
      · ((try dsimp only) <;> (exact op_cells HAT.out.1 HAT.out.2 HP.out.ld.bel))
      clear hHeld
      have hHeld := hHeld2
      clear hHeld2 hK K
      try simp only [Act.put, List.setIfInBounds_toArray, List.set_cons_zero, List.set_cons_succ]
      refine wpAnyH_take (i := 7) (v := ?_) (by simp only [List.getElem?_toArray, List.getElem?_cons_succ, List.getElem?_cons_zero]; rfl) (by kernel_rfl) (by kernel_rfl) (by kernel_rfl) (fun _ _ _ h => h) (Or.inl ⟨by rfl, ?_⟩) (by assumption) ?_
      rotate_left 1
      · (intro w hSw; (try dsimp only at hSw); go_simp; try with_reducible rfl)
      try simp only [Act.put, List.setIfInBounds_toArray, List.set_cons_zero, List.set_cons_succ]
      refine wpAnyH_take (i := 8) (v := ?_) (by simp only [List.getElem?_toArray, List.getElem?_cons_succ, List.getElem?_cons_zero]; rfl) (by kernel_rfl) (by kernel_rfl) (by kernel_rfl) (fun _ _ _ h => h) (Or.inl ⟨by rfl, ?_⟩) (by assumption) ?_
      rotate_left 1
      · (intro w hSw; (try dsimp only at hSw); go_simp; try with_reducible rfl)
      try simp only [Act.put, List.setIfInBounds_toArray, List.set_cons_zero, List.set_cons_succ]
      refine wpAnyH_take (i := 9) (v := ?_) (by simp only [List.getElem?_toArray, List.getElem?_cons_succ, List.getElem?_cons_zero]; rfl) (by kernel_rfl) (by kernel_rfl) (by kernel_rfl) (fun _ _ _ h => h) (Or.inl ⟨by rfl, ?_⟩) (by assumption) ?_
      rotate_left 1
      · (intro w hSw; (try dsimp only at hSw); go_simp; try with_reducible rfl)
      try simp only [Act.put, List.setIfInBounds_toArray, List.set_cons_zero, List.set_cons_succ]
      refine wpAnyH_take (i := 10) (v := ?_) (by simp only [List.getElem?_toArray, List.getElem?_cons_succ, List.getElem?_cons_zero]; rfl) (by kernel_rfl) (by kernel_rfl) (by kernel_rfl) (fun _ _ _ h => h) (Or.inl ⟨by rfl, ?_⟩) (by assumption) ?_
      rotate_left 1
      · (intro w hSw; (try dsimp only at hSw); go_simp; try with_reducible rfl)
      try simp only [Act.put, List.setIfInBounds_toArray, List.set_cons_zero, List.set_cons_succ]
      refine wpAnyH_take (i := 11) (v := ?_) (by simp only [List.getElem?_toArray, List.getElem?_cons_succ, List.getElem?_cons_zero]; rfl) (by kernel_rfl) (by kernel_rfl) (by kernel_rfl) (fun _ _ _ h => h) (Or.inl ⟨by rfl, ?_⟩) (by assumption) ?_
      rotate_left 1
      · (intro w hSw; (try dsimp only at hSw); go_simp; try with_reducible rfl)
      try simp only [Act.put, List.setIfInBounds_toArray, List.set_cons_zero, List.set_cons_succ]
      refine wpAnyH_ready (rs := [12]) (by kernel_rfl) (by simp) ?_
      refine AllReadyH.cons (by simp only [List.getElem?_toArray, List.getElem?_cons_succ, List.getElem?_cons_zero]; rfl) (fun K hK => ?_) ?_
      rotate_left 1
      · exact AllReadyH.nil
      go_simp
      refine hK.out _ _ ?_ (fun hHeld2 => ?_)
      · ((try dsimp only) <;> (exact op_cells HAT.out.1 HAT.out.2 N.out.2.pj.ld.bel))
      clear hHeld
      have hHeld := hHeld2
      clear hHeld2 hK K
      try simp only [Act.put, List.setIfInBounds_toArray, List.set_cons_zero, List.set_cons_succ]
      refine wpAnyH_take (i := 13) (v := ?_) (by simp only [List.getElem?_toArray, List.getElem?_cons_succ, List.getElem?_cons_zero]; rfl) (by kernel_rfl) (by kernel_rfl) (by kernel_rfl) (fun _ _ _ h => h) (Or.inl ⟨by rfl, ?_⟩) (by assumption) ?_
      rotate_left 1
      · (intro w hSw; (try dsimp only at hSw); go_simp; try with_reducible rfl)
      try simp only [Act.put, List.setIfInBounds_toArray, List.set_cons_zero, List.set_cons_succ]
      refine wpAnyH_done (by kernel_rfl) ?_ _
      refine NoPanic.normal ?_
      have N2 := hide N.out.2
      clear hHeld N HP c0 c1 c2 c3 f0 f1 f2 f3 q0 q1 q2 q3 q4 q5 HAT HOA H1
      go_wp2_with fail
      go_roundw
      case rel => exact ⟨i + 1, d', D', As', cs', Aq', cq', by omega, by omega, rfl, rfl, by go_num, N2.out, by have := L2.out; have := H2.out; omega, by have := L3.out; have := H3.out; omega, by rw [L1.out]; exact H4.out⟩
      case measure => simp [intOf]; omega
    · have hout : (i < m ∧ ¬ i < 30) ∨ ¬ i < m := by omega
      clear hlt
      rcases hout with ⟨hm1, hm2⟩ | hm1
      all_goals
        go_wp2_with fail
        go_loopw [62] (fun x wz => ∃ j : Nat, j ≤ 30 ∧ x = .int .i64 (j : Int) ∧ PB w wz w3.heap.size d D As cs Aq cq) (fun x _ => 30 - (intOf x).toNat)
        case atStart => exact ⟨0, by omega, rfl, H1.out⟩
        case round =>
          obtain ⟨j, hj, rfl, hbz⟩ := hrel
          have HZ := hide hbz
          clear hbz H1
          by_cases hlt : j < 30
          · obtain ⟨ad, x, hA, hxw, hxc⟩ := int_at (HR.out.below HZ.out.pj.ld.bel) HW.out (show j < nr by omega)
            subst hA
            go_wp2_with fail
            refine (ld_read_any HZ.out.pj.ld x).mono ?_
            rintro e w4 ⟨⟨v, rfl⟩, hb4⟩
            have Z4 := hide (HZ.out.below hb4)
            clear hb4 hxc HZ
            go_wp2_with fail
            refine (ld_crash (Z4.out.pj.ld.alloc _) (by have := H4.out; omega) (w4.heap.size + 1) _ 2 2 [true, false] (bools_new2 w4) (by simp) (by decide) x x).mono ?_
            rintro e w5 ⟨c5, cap5, pad5, rfl, h5⟩
            have Z5 := hide ((Z4.out.alloc (.cells #[.bool true, .bool false] 4)).below h5.bel)
            clear h5 Z4
            go_wp2_with fail
            refine (ld_queue Z5.out.pj.ld).mono ?_
            rintro e w6 ⟨A6, c6, rfl, ho6, hb6⟩
            have Z6 := hide (Z5.out.below hb6)
            have HB6 := hide hb6
            by_cases hq0 : D.queue.length = 0
            · have hq1 : decide (0 < D.queue.length) = false := by simp [hq0]
              clear ho6 hb6 Z5 hq0
              go_wp2_with fail
              go_roundw
              case rel => exact ⟨j + 1, by omega, by go_num, Z6.out⟩
              case measure => simp [intOf]; omega
            · have hq1 : decide (0 < D.queue.length) = true := by simp; omega
              have hq2 : 0 < D.queue.length := by omega
              obtain ⟨g, u, hA6, hg1, hg2, hg3, hg4, -⟩ := own_set ho6 hq2
              subst hA6
              have Z7 := hide (Z5.out.below (hb6.setCell (p := ⟨g, 0, none⟩) hg1 (.int .i64 99)))
              clear ho6 hb6 Z5 Z6 HB6 hq0 hg1 hg2
              go_wp2_with fail
              go_roundw
              case rel => exact ⟨j + 1, by omega, by go_num, Z7.out⟩
              case measure => simp [intOf]; omega
          · obtain ⟨c0, c1, c2, c3, -⟩ := blk4 HZ.out.bk
            go_wp2_with fail
            have CT := tells_any wr d D w.heap.size As cs Aq cq HZ.out.pj.ld HZ.out.pj.rm
            rw [refV_eq] at CT
            refine CT.mono ?_
            rintro e w8 ⟨rfl, hb8⟩
            have N3 := hide (HZ.out.below hb8)
            clear hb8 CT c0 c1 c2 c3 HZ
            go_wp2_with fail
            go_ret
            exact ⟨rfl, N3.out.pj.ld.bel⟩
end Go.Proofs.Ytpcaaobninnkaaa
