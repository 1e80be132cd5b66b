/- The walk of marllaw02.DiskOrder. -/
import Derived.Test.YtpcaaobninnkaaaDskOrderS
namespace Go.Proofs.Ytpcaaobninnkaaa
open Go.RowKit
attribute [local go_sem ↓] Go.wp_at_zero Go.wp_at_succ

theorem by_newx (w : World) (x : UInt8) (v : Int) (hv : v = (x.toNat : Int)) : By (w.alloc (.cells #[.int .u8 v] 5)) (w.heap.size + 1) (some ⟨w.heap.size, 0, none⟩) 1 [x] := by subst hv; exact by_new w x
theorem crashed_len {D : Dsk} (h : D.Ok) (f : Nat → Nat → Bool) (cap : Nat) (pad : Array Value) : (D.crashed f cap pad).sure.length = D.sure.length :=
  (crashN_64 (f := f) (n := D.sure.length) ⟨rfl, h.b⟩ (fun x hx => h.q x hx) _ (Nat.le_refl _)).1

set_option maxHeartbeats 1000000 in
set_option maxRecDepth 100000 in
theorem order_few (A1 : Option Addr) (n1 c1 : Nat) (fs : List UInt8) (A : Option Addr) (m c : Nat) (bs : List Bool) (w : World) (h40 : ¬ 40 < n1) (hfl : fs.length = n1) (h1 : By w w.heap.size A1 n1 fs)
    (h : Sl w w.heap.size A m (bs.map Value.bool)) (hm : m ≤ 9223372036854775807) (hn1 : n1 ≤ 9223372036854775807) :
    Calls Try.prog 4 #[.slice A1 n1 c1, .slice A m c] w fun e w' => e = .returned (.bool true) ∧ Below w.heap.size w w' := by
  have H := hide h
  have HF := hide h1
  have HFl := hide hfl
  clear h h1 hfl
  go_enter Try.func4, Try.ntmps4
  go_wp2_with fail
  refine (awake_any _).mono ?_
  rintro e w1 ⟨rfl, hb1⟩
  have B1 := hide hb1
  clear hb1
  go_wp2_with fail
  refine (ld_new _ 3 (by decide) (by decide)).mono ?_
  rintro e w2 ⟨d, rfl, h2⟩
  have H2 := hide h2
  clear h2
  go_wp2_with fail
  go_loopw [7, 8, 10] (fun x y z wr => ∃ (j : Nat), j ≤ n1 ∧ x = .int .u8 ((wantF fs bs j).toNat : Int) ∧ y = .int .u8 ((lastF fs j).toNat : Int) ∧ z = .int .i64 (j : Int) ∧ LD w1 wr d (ordD (fs.take j))) (fun _ _ z _ => n1 - (intOf z).toNat)
  case atStart => exact ⟨0, Nat.zero_le _, rfl, rfl, rfl, H2.out⟩
  case round =>
    obtain ⟨j, hj, rfl, rfl, rfl, h4⟩ := hrel
    have H4 := hide h4
    have hql : Hid ((ordD (fs.take j)).queue.length = j) := hide (by have := HFl.out; simp [ordD]; omega)
    have hsl : Hid ((ordD (fs.take j)).steps = j) := hide (by have := HFl.out; simp [ordD]; omega)
    clear h4 H2
    by_cases hlt : j < n1
    · have hj1 : j < n1 := by omega
      obtain ⟨hll, ad1, hA1, hc1⟩ := By.get (HF.out.below (B1.out.trans (H4.out.bel.mono B1.out.size))) hj1
      have hfj : (fs)[j] = fs.getD j 0 := by rw [List.getD_eq_getElem?_getD, List.getElem?_eq_getElem hll]; rfl
      rw [hfj] at hc1
      subst hA1
      have hlast : lastF fs (j + 1) = fs.getD j 0 := rfl
      have hwant : wantF fs bs (j + 1) = if bs.getD j false = true then fs.getD j 0 else wantF fs bs j := rfl
      have htk : fs.take (j + 1) = fs.take j ++ [fs.getD j 0] := by
        have hl := HFl.out
        rw [List.take_add_one, List.getD_eq_getElem?_getD, List.getElem?_eq_getElem (by omega)]; rfl
      clear hfj hll
      generalize fs.getD j 0 = f at *
      replace hlast := hide hlast
      replace hwant := hide hwant
      replace htk := hide htk
      go_wp2_with fail
      refine (ld_bytes _ (wr.heap.size + 1) _ 1 1 [f] (by_newx wr f _ rfl) (by simp) (by decide)).mono ?_
      rintro e w5 ⟨g, rfl, hg, hb5, hbl5⟩
      have hgd : g ≠ d := by have := H4.out.lt; simp at hg; omega
      have H5 := hide ((H4.out.alloc (.cells #[.int .u8 (f.toNat : Int)] 5)).below hbl5)
      have G5 := hide hb5
      clear hb5 hbl5 hg
      go_wp2_with fail
      refine (ld_write H5.out 1 g _ (round64 [f]) _ (by show 1 < (List.replicate 3 zero64).length; decide) (by show (-1 : Int) ≠ 0; decide) (by rw [hsl.out]; omega) (by rw [hql.out]; omega) (round64_len _) G5.out u8s_at hgd).mono ?_
      rintro e w6 ⟨rfl, h6, -⟩
      rw [ordD_step, ← htk.out] at h6
      have H6 := hide h6
      clear h6 hgd
      rcases bool_at (H.out.below (B1.out.trans (H6.out.bel.mono B1.out.size))) j with ⟨hjm, ad, hA', hcu⟩ | ⟨hjm, hb⟩
      · subst hA'
        generalize hfb : bs.getD j false = fb at *
        replace hfb := hide hfb
        cases fb
        · go_wp2_with fail
          go_roundw
          case rel => exact ⟨j + 1, by omega, by rw [hwant.out]; rfl, by rw [hlast.out], by go_num, H6.out⟩
          case measure => simp [intOf]; omega
        · go_wp2_with fail
          go_roundw
          case rel => exact ⟨j + 1, by omega, by rw [hwant.out]; rfl, by rw [hlast.out], by go_num, H6.out⟩
          case measure => simp [intOf]; omega
      · replace hb := hide hb
        go_wp2_with fail
        go_roundw
        case rel => exact ⟨j + 1, by omega, by rw [hwant.out, hb.out]; rfl, by rw [hlast.out], by go_num, H6.out⟩
        case measure => simp [intOf]; omega
    · have hjN : j = n1 := by omega
      have hft : Hid (fs.take j = fs) := hide (List.take_of_length_le (by rw [HFl.out]; omega))
      rw [hft.out] at H4 hql hsl
      obtain ⟨wf, hwf⟩ : ∃ x, x = wantF fs bs j := ⟨_, rfl⟩
      obtain ⟨lf, hlf⟩ : ∃ x, x = lastF fs j := ⟨_, rfl⟩
      rw [← hwf, ← hlf]
      have hcj : Hid (fs.length = j) := hide (by rw [HFl.out]; omega)
      replace hwf := hide hwf
      replace hlf := hide hlf
      have cd1 := fun cap pad => ord_crash fs bs (-1) 0 (by decide) cap pad
      have cd2 := fun cap pad => ord_again fs [] (-1) 0 cap pad
      rw [hcj.out, ← hwf.out] at cd1
      rw [hcj.out, ← hlf.out] at cd2
      replace cd1 := hide cd1
      replace cd2 := hide cd2
      go_wp2_with fail
      refine (ld_crash H4.out (by show 1 ≤ (List.replicate 3 zero64).length; decide) _ _ m c bs (H.out.below (B1.out.trans (H4.out.bel.mono B1.out.size))) (Nat.le_trans B1.out.size H4.out.bel.size) hm (-1) 0).mono ?_
      rintro e w5 ⟨cc, cap, pad, rfl, h5⟩
      have C5 := hide h5
      have H5 := hide (H4.out.below h5.bel)
      clear h5
      go_wp2_with fail
      refine (ld_queue H5.out).mono ?_
      rintro e w6 ⟨A6, c6, rfl, -, hb6⟩
      rw [hql.out]
      have C6 := hide (C5.out.below hb6)
      have H6 := hide (H5.out.below hb6)
      have hO := hide (fun k (h1 : wr.heap.size ≤ k) (h2 : k < w6.heap.size) => H4.out.out (C5.out.bel.trans (hb6.mono C5.out.bel.size)) h1 h2)
      clear hb6 C5 H5
      go_wp2_with fail
      refine (ld_barrier H6.out (by show (-1 : Int) ≠ 0; decide) (by rw [hsl.out]; omega)).mono ?_
      rintro e w7 ⟨rfl, h7, gs, hK, hfr⟩
      have C7 : Hid (LD w1 w7 cc ((ordD fs).crashed (crashF bs (-1) 0) cap pad)) := by
        obtain ⟨s, v, hC⟩ := C6.out.ex
        exact hide (LD.of (dsk_keep hC hK (fun k h1 h2 => (hfr k (hO.out k h1 h2)).1)) H4.out.bel.size h7.bel)
      have H7 := hide h7
      clear h7 hK hfr C6 hO
      go_wp2_with fail
      refine (ld_read C7.out 1 (by rw [crashed_len H4.out.ok]; show 1 < (List.replicate 3 zero64).length; decide)).mono ?_
      rintro e w8 ⟨ga, rfl, hga, hba, hbla⟩
      rw [cd1.out] at hba
      have X8 := hide hba
      have H8 := hide (H7.out.below hbla)
      clear hba hbla hga
      go_wp2_with fail
      refine (ld_crash H8.out (by show 1 ≤ (putQ _ _).length; rw [putQ_len]; show 1 ≤ (List.replicate 3 zero64).length; decide) 0 none 0 0 [] Sl.nil_ (Nat.zero_le _) (by decide) (-1) 0).mono ?_
      rintro e w9 ⟨c2, cap2, pad2, rfl, h9⟩
      have C9 := hide (h9.base H8.out.bel)
      have X9 := hide (X8.out.below h9.bel)
      clear h9
      go_wp2_with fail
      refine (ld_read C9.out 1 (by show 1 < (putQ _ _).length; rw [putQ_len]; show 1 < (List.replicate 3 zero64).length; decide)).mono ?_
      rintro e w10 ⟨gb, rfl, hgb, hbb, hblb⟩
      rw [cd2.out] at hbb
      have Y := hide hbb
      have X := hide (X9.out.below hblb)
      have Hb := hide (B1.out.trans ((C9.out.below hblb).bel.mono B1.out.size))
      clear hbb hblb hgb cd1 cd2 X9 X8
      obtain ⟨ra, hra⟩ : ∃ r, r = round64 [wf] := ⟨_, rfl⟩
      obtain ⟨rb2, hrb⟩ : ∃ r, r = round64 [lf] := ⟨_, rfl⟩
      have r1 : Hid (ra.length = 64) := hide (by rw [hra]; exact round64_len _)
      have r2 : Hid (rb2.length = 64) := hide (by rw [hrb]; exact round64_len _)
      rw [← hra] at X
      rw [← hrb] at Y
      replace hra := hide hra
      replace hrb := hide hrb
      obtain ⟨cv, hcv⟩ := cv_ex Try.prog 22 9
      have hS := hide (fun (w' : World) (hb : Below w10.heap.size w10 w') => And.intro (cvt' hcv 64 (by_blk (X.out.below hb) r1.out)) (cvt' hcv 64 (by_blk (Y.out.below hb) r2.out)))
      have s1 := (hS.out _ (Below.refl _ _).drew).1
      have s2 := (hS.out _ (Below.refl _ _).drew).2
      have s3 := (hS.out _ (((Below.refl w10.heap.size w10).alloc (Nat.le_refl _) (.cells #[.int .u8 (wf.toNat : Int)] 5)).drew)).1
      have s4 := (hS.out _ (((Below.refl w10.heap.size w10).alloc (Nat.le_refl _) (.cells #[.int .u8 (wf.toNat : Int)] 5)).drew)).2
      have t1 := txt_eq ra
      have t2 := txt_eq rb2
      go_wp2_with fail
      refine wp_region_noPanic ?_
      refine wp_region_held_drew (S := (fun w' => cv (.slice (some ⟨ga, 0, none⟩) 64 64) w' = .ok (.string (txt ra)) w' ∧ cv (.slice (some ⟨gb, 0, none⟩) 64 64) w' = .ok (.string (txt rb2)) w')) (by kernel_rfl) ?_ (fun hHeld => ?_)
      · ((try dsimp only) <;> (first | trivial | assumption | go_keep))
      refine wpAnyH_take (i := 0) (v := ?_) (by simp only [List.getElem?_toArray, List.getElem?_cons_succ, List.getElem?_cons_zero]; rfl) (by kernel_rfl) (by kernel_rfl) (by kernel_rfl) (fun _ _ _ h => h) (Or.inl ⟨by rfl, ?_⟩) (by assumption) ?_
      rotate_left 1
      · (intro w hSw; (try dsimp only at hSw); go_simp; try with_reducible rfl)
      try simp only [Act.put, List.setIfInBounds_toArray, List.set_cons_zero, List.set_cons_succ]
      refine wpAnyH_take (i := 1) (v := ?_) (by simp only [List.getElem?_toArray, List.getElem?_cons_succ, List.getElem?_cons_zero]; rfl) (by kernel_rfl) (by kernel_rfl) (by kernel_rfl) (fun _ _ _ h => h) (Or.inl ⟨by rfl, ?_⟩) (by assumption) ?_
      rotate_left 1
      · (intro w hSw; (try dsimp only at hSw); go_simp; try with_reducible rfl)
      try simp only [Act.put, List.setIfInBounds_toArray, List.set_cons_zero, List.set_cons_succ]
      refine wpAnyH_take (i := 2) (v := ?_) (by simp only [List.getElem?_toArray, List.getElem?_cons_succ, List.getElem?_cons_zero]; rfl) (by kernel_rfl) (by kernel_rfl) (by kernel_rfl) (fun _ _ _ h => h) (Or.inl ⟨by rfl, ?_⟩) (by assumption) ?_
      rotate_left 1
      · (intro w hSw; (try dsimp only at hSw); go_simp; try with_reducible rfl)
      try simp only [Act.put, List.setIfInBounds_toArray, List.set_cons_zero, List.set_cons_succ]
      refine wpAnyH_take (i := 3) (v := ?_) (by simp only [List.getElem?_toArray, List.getElem?_cons_succ, List.getElem?_cons_zero]; rfl) (by kernel_rfl) (by kernel_rfl) (by kernel_rfl) (fun _ _ _ h => h) (Or.inl ⟨by rfl, ?_⟩) (by assumption) ?_
      rotate_left 1
      · (intro w hSw; (try dsimp only at hSw); go_simp; try with_reducible rfl)
      try simp only [Act.put, List.setIfInBounds_toArray, List.set_cons_zero, List.set_cons_succ]
      refine wpAnyH_take (i := 4) (v := ?_) (by simp only [List.getElem?_toArray, List.getElem?_cons_succ, List.getElem?_cons_zero]; rfl) (by kernel_rfl) (by kernel_rfl) (by kernel_rfl) (fun _ _ _ h => h) (Or.inl ⟨by rfl, ?_⟩) (by assumption) ?_
      rotate_left 1
      · (intro w hSw; (try dsimp only at hSw); go_simp; try with_reducible rfl)
      try simp only [Act.put, List.setIfInBounds_toArray, List.set_cons_zero, List.set_cons_succ]
      refine wpAnyH_take (i := 5) (v := ?_) (by simp only [List.getElem?_toArray, List.getElem?_cons_succ, List.getElem?_cons_zero]; rfl) (by kernel_rfl) (by kernel_rfl) (by kernel_rfl) (fun _ _ _ h => h) (Or.inl ⟨by rfl, ?_⟩) (by assumption) ?_
      rotate_left 1
      · (intro w hSw; (try dsimp only at hSw); go_simp; try with_reducible rfl)
      try simp only [Act.put, List.setIfInBounds_toArray, List.set_cons_zero, List.set_cons_succ]
      refine wpAnyH_take (i := 6) (v := ?_) (by simp only [List.getElem?_toArray, List.getElem?_cons_succ, List.getElem?_cons_zero]; rfl) (by kernel_rfl) (by kernel_rfl) (by kernel_rfl) (fun _ _ _ h => h) (Or.inl ⟨by rfl, ?_⟩) (by assumption) ?_
      rotate_left 1
      · (intro w hSw; (try dsimp only at hSw); go_simp; try with_reducible rfl)
      try simp only [Act.put, List.setIfInBounds_toArray, List.set_cons_zero, List.set_cons_succ]
      refine wpAnyH_take (i := 7) (v := ?_) (by simp only [List.getElem?_toArray, List.getElem?_cons_succ, List.getElem?_cons_zero]; rfl) (by kernel_rfl) (by kernel_rfl) (by kernel_rfl) (fun _ _ _ h => h) (Or.inl ⟨by rfl, ?_⟩) (by assumption) ?_
      rotate_left 1
      · (intro w hSw; (try dsimp only at hSw); go_simp; try with_reducible rfl)
      try simp only [Act.put, List.setIfInBounds_toArray, List.set_cons_zero, List.set_cons_succ]
      refine wpAnyH_take (i := 8) (v := ?_) (by simp only [List.getElem?_toArray, List.getElem?_cons_succ, List.getElem?_cons_zero]; rfl) (by kernel_rfl) (by kernel_rfl) (by kernel_rfl) (fun _ _ _ h => h) (Or.inl ⟨by rfl, ?_⟩) (by assumption) ?_
      rotate_left 1
      · (intro w hSw; (try dsimp only at hSw); go_simp; try with_reducible rfl)
      try simp only [Act.put, List.setIfInBounds_toArray, List.set_cons_zero, List.set_cons_succ]
      refine wpAnyH_take (i := 9) (v := ?_) (by simp only [List.getElem?_toArray, List.getElem?_cons_succ, List.getElem?_cons_zero]; rfl) (by kernel_rfl) (by kernel_rfl) (by kernel_rfl) (fun _ _ _ h => h) (Or.inl ⟨by rfl, ?_⟩) (by assumption) ?_
      rotate_left 1
      · (intro w hSw; (try dsimp only at hSw); go_simp; try with_reducible rfl)
      try simp only [Act.put, List.setIfInBounds_toArray, List.set_cons_zero, List.set_cons_succ]
      refine wpAnyH_ready (rs := [10]) (by kernel_rfl) (by simp) ?_
      refine AllReadyH.cons (by simp only [List.getElem?_toArray, List.getElem?_cons_succ, List.getElem?_cons_zero]; rfl) (fun K hK => ?_) ?_
      rotate_left 1
      · exact AllReadyH.nil
      go_simp
      refine hK.out _ _ ?_ (fun hHeld2 => ?_)
      · ((try dsimp only) <;> (first | trivial | assumption | go_keep))
      clear hHeld
      have hHeld := hHeld2
      clear hHeld2 hK K
      try simp only [Act.put, List.setIfInBounds_toArray, List.set_cons_zero, List.set_cons_succ]
      refine wpAnyH_ready (rs := [11]) (by kernel_rfl) (by simp) ?_
      refine AllReadyH.cons (by simp only [List.getElem?_toArray, List.getElem?_cons_succ, List.getElem?_cons_zero]; rfl) (fun K hK => ?_) ?_
      rotate_left 1
      · exact AllReadyH.nil
      go_simp
      refine (ld_bytes _ (w10.heap.size + 1) _ 1 1 [wf] (by_newx w10.drew wf _ rfl) (by simp) (by decide)).mono ?_; rintro e w11 ⟨g1, rfl, hg1, hb11, hbl11⟩; rw [← hra.out] at hb11; have e1 := cvt' hcv (w := w11) 64 (by_blk hb11 r1.out); have B11 := hide ((((Below.refl w10.heap.size w10).alloc (Nat.le_refl _) (.cells #[.int .u8 (wf.toNat : Int)] 5)).drew).trans (hbl11.mono (by simp))); have s5 := (hS.out _ B11.out).1; have s6 := (hS.out _ B11.out).2; have s7 := (hS.out _ (B11.out.alloc B11.out.size (.cells #[.int .u8 (lf.toNat : Int)] 5))).1; have s8 := (hS.out _ (B11.out.alloc B11.out.size (.cells #[.int .u8 (lf.toNat : Int)] 5))).2; clear hb11 hbl11 hg1; go_wp2_with fail
      refine hK.out _ _ ?_ (fun hHeld2 => ?_)
      · ((try dsimp only) <;> (first | trivial | assumption | go_keep))
      clear hHeld
      have hHeld := hHeld2
      clear hHeld2 hK K
      try simp only [Act.put, List.setIfInBounds_toArray, List.set_cons_zero, List.set_cons_succ]
      refine wpAnyH_ready (rs := [12]) (by kernel_rfl) (by simp) ?_
      refine AllReadyH.cons (by simp only [List.getElem?_toArray, List.getElem?_cons_succ, List.getElem?_cons_zero]; rfl) (fun K hK => ?_) ?_
      rotate_left 1
      · exact AllReadyH.nil
      go_simp
      refine hK.out _ _ ?_ (fun hHeld2 => ?_)
      · ((try dsimp only) <;> (first | trivial | assumption | go_keep))
      clear hHeld
      have hHeld := hHeld2
      clear hHeld2 hK K
      try simp only [Act.put, List.setIfInBounds_toArray, List.set_cons_zero, List.set_cons_succ]
      refine wpAnyH_take (i := 13) (v := ?_) (by simp only [List.getElem?_toArray, List.getElem?_cons_succ, List.getElem?_cons_zero]; rfl) (by kernel_rfl) (by kernel_rfl) (by kernel_rfl) (fun _ _ _ h => h) (Or.inl ⟨by rfl, ?_⟩) (by assumption) ?_
      rotate_left 1
      · (intro w hSw; (try dsimp only at hSw); go_simp; try with_reducible rfl)
      try simp only [Act.put, List.setIfInBounds_toArray, List.set_cons_zero, List.set_cons_succ]
      refine wpAnyH_take (i := 14) (v := ?_) (by simp only [List.getElem?_toArray, List.getElem?_cons_succ, List.getElem?_cons_zero]; rfl) (by kernel_rfl) (by kernel_rfl) (by kernel_rfl) (fun _ _ _ h => h) (Or.inl ⟨by rfl, ?_⟩) (by assumption) ?_
      rotate_left 1
      · (intro w hSw; (try dsimp only at hSw); go_simp; try with_reducible rfl)
      try simp only [Act.put, List.setIfInBounds_toArray, List.set_cons_zero, List.set_cons_succ]
      refine wpAnyH_take (i := 15) (v := ?_) (by simp only [List.getElem?_toArray, List.getElem?_cons_succ, List.getElem?_cons_zero]; rfl) (by kernel_rfl) (by kernel_rfl) (by kernel_rfl) (fun _ _ _ h => h) (Or.inl ⟨by rfl, ?_⟩) (by assumption) ?_
      rotate_left 1
      · (intro w hSw; (try dsimp only at hSw); go_simp; try with_reducible rfl)
      try simp only [Act.put, List.setIfInBounds_toArray, List.set_cons_zero, List.set_cons_succ]
      refine wpAnyH_take (i := 16) (v := ?_) (by simp only [List.getElem?_toArray, List.getElem?_cons_succ, List.getElem?_cons_zero]; rfl) (by kernel_rfl) (by kernel_rfl) (by kernel_rfl) (fun _ _ _ h => h) (Or.inl ⟨by rfl, ?_⟩) (by assumption) ?_
      rotate_left 1
      · (intro w hSw; (try dsimp only at hSw); go_simp; try with_reducible rfl)
      try simp only [Act.put, List.setIfInBounds_toArray, List.set_cons_zero, List.set_cons_succ]
      refine wpAnyH_take (i := 17) (v := ?_) (by simp only [List.getElem?_toArray, List.getElem?_cons_succ, List.getElem?_cons_zero]; rfl) (by kernel_rfl) (by kernel_rfl) (by kernel_rfl) (fun _ _ _ h => h) (Or.inl ⟨by rfl, ?_⟩) (by assumption) ?_
      rotate_left 1
      · (intro w hSw; (try dsimp only at hSw); go_simp; try with_reducible rfl)
      try simp only [Act.put, List.setIfInBounds_toArray, List.set_cons_zero, List.set_cons_succ]
      refine wpAnyH_take (i := 18) (v := ?_) (by simp only [List.getElem?_toArray, List.getElem?_cons_succ, List.getElem?_cons_zero]; rfl) (by kernel_rfl) (by kernel_rfl) (by kernel_rfl) (fun _ _ _ h => h) (Or.inl ⟨by rfl, ?_⟩) (by assumption) ?_
      rotate_left 1
      · (intro w hSw; (try dsimp only at hSw); go_simp; try with_reducible rfl)
      try simp only [Act.put, List.setIfInBounds_toArray, List.set_cons_zero, List.set_cons_succ]
      refine wpAnyH_ready (rs := [19]) (by kernel_rfl) (by simp) ?_
      refine AllReadyH.cons (by simp only [List.getElem?_toArray, List.getElem?_cons_succ, List.getElem?_cons_zero]; rfl) (fun K hK => ?_) ?_
      rotate_left 1
      · exact AllReadyH.nil
      go_simp
      refine hK.out _ _ ?_ (fun hHeld2 => ?_)
      · ((try dsimp only) <;> (first | trivial | assumption | go_keep))
      clear hHeld
      have hHeld := hHeld2
      clear hHeld2 hK K
      try simp only [Act.put, List.setIfInBounds_toArray, List.set_cons_zero, List.set_cons_succ]
      refine wpAnyH_ready (rs := [20]) (by kernel_rfl) (by simp) ?_
      refine AllReadyH.cons (by simp only [List.getElem?_toArray, List.getElem?_cons_succ, List.getElem?_cons_zero]; rfl) (fun K hK => ?_) ?_
      rotate_left 1
      · exact AllReadyH.nil
      go_simp
      refine (ld_bytes _ (w11.heap.size + 1) _ 1 1 [lf] (by_newx w11 lf _ rfl) (by simp) (by decide)).mono ?_; rintro e w12 ⟨g2, rfl, hg2, hb12, hbl12⟩; rw [← hrb.out] at hb12; have e2 := cvt' hcv (w := w12) 64 (by_blk hb12 r2.out); have B12 := hide ((B11.out.alloc B11.out.size (.cells #[.int .u8 (lf.toNat : Int)] 5)).trans (hbl12.mono (Nat.le_trans B11.out.size (by simp)))); have s9 := (hS.out _ B12.out).1; have s10 := (hS.out _ B12.out).2; clear hb12 hbl12 hg2; go_wp2_with fail
      refine hK.out _ _ ?_ (fun hHeld2 => ?_)
      · ((try dsimp only) <;> (first | trivial | assumption | go_keep))
      clear hHeld
      have hHeld := hHeld2
      clear hHeld2 hK K
      try simp only [Act.put, List.setIfInBounds_toArray, List.set_cons_zero, List.set_cons_succ]
      refine wpAnyH_ready (rs := [21]) (by kernel_rfl) (by simp) ?_
      refine AllReadyH.cons (by simp only [List.getElem?_toArray, List.getElem?_cons_succ, List.getElem?_cons_zero]; rfl) (fun K hK => ?_) ?_
      rotate_left 1
      · exact AllReadyH.nil
      go_simp
      refine hK.out _ _ ?_ (fun hHeld2 => ?_)
      · ((try dsimp only) <;> (first | trivial | assumption | go_keep))
      clear hHeld
      have hHeld := hHeld2
      clear hHeld2 hK K
      try simp only [Act.put, List.setIfInBounds_toArray, List.set_cons_zero, List.set_cons_succ]
      refine wpAnyH_take (i := 22) (v := ?_) (by simp only [List.getElem?_toArray, List.getElem?_cons_succ, List.getElem?_cons_zero]; rfl) (by kernel_rfl) (by kernel_rfl) (by kernel_rfl) (fun _ _ _ h => h) (Or.inl ⟨by rfl, ?_⟩) (by assumption) ?_
      rotate_left 1
      · (intro w hSw; (try dsimp only at hSw); go_simp; try with_reducible rfl)
      try simp only [Act.put, List.setIfInBounds_toArray, List.set_cons_zero, List.set_cons_succ]
      refine wpAnyH_take (i := 23) (v := ?_) (by simp only [List.getElem?_toArray, List.getElem?_cons_succ, List.getElem?_cons_zero]; rfl) (by kernel_rfl) (by kernel_rfl) (by kernel_rfl) (fun _ _ _ h => h) (Or.inl ⟨by rfl, ?_⟩) (by assumption) ?_
      rotate_left 1
      · (intro w hSw; (try dsimp only at hSw); go_simp; try with_reducible rfl)
      try simp only [Act.put, List.setIfInBounds_toArray, List.set_cons_zero, List.set_cons_succ]
      refine wpAnyH_take (i := 24) (v := ?_) (by simp only [List.getElem?_toArray, List.getElem?_cons_succ, List.getElem?_cons_zero]; rfl) (by kernel_rfl) (by kernel_rfl) (by kernel_rfl) (fun _ _ _ h => h) (Or.inl ⟨by rfl, ?_⟩) (by assumption) ?_
      rotate_left 1
      · (intro w hSw; (try dsimp only at hSw); go_simp; try with_reducible rfl)
      try simp only [Act.put, List.setIfInBounds_toArray, List.set_cons_zero, List.set_cons_succ]
      refine wpAnyH_done (by kernel_rfl) ?_ _
      refine NoPanic.normal ?_
      go_wp2_with fail
      go_ret
      exact ⟨rfl, Hb.out.trans (B12.out.mono Hb.out.size)⟩

set_option maxHeartbeats 1000000 in
set_option maxRecDepth 100000 in
theorem order_more (A1 : Option Addr) (n1 c1 : Nat) (fs : List UInt8) (A : Option Addr) (m c : Nat) (bs : List Bool) (w : World) (l : List UInt8) (h40 : 40 < n1) (hfs : fs = l.take 40) (hfl : fs.length = 40) (h1 : By w w.heap.size A1 n1 l)
    (h : Sl w w.heap.size A m (bs.map Value.bool)) (hm : m ≤ 9223372036854775807) (hn1 : n1 ≤ 9223372036854775807) :
    Calls Try.prog 4 #[.slice A1 n1 c1, .slice A m c] w fun e w' => e = .returned (.bool true) ∧ Below w.heap.size w w' := by
  have H := hide h
  have HF := hide h1
  have HFl := hide hfl
  replace hfs := hide hfs
  clear h h1 hfl
  go_enter Try.func4, Try.ntmps4
  go_wp2_with fail
  refine (awake_any _).mono ?_
  rintro e w1 ⟨rfl, hb1⟩
  have B1 := hide hb1
  clear hb1
  go_wp2_with fail
  refine (ld_new _ 3 (by decide) (by decide)).mono ?_
  rintro e w2 ⟨d, rfl, h2⟩
  have H2 := hide h2
  clear h2
  go_wp2_with fail
  go_loopw [7, 8, 10] (fun x y z wr => ∃ (j : Nat), j ≤ 40 ∧ x = .int .u8 ((wantF fs bs j).toNat : Int) ∧ y = .int .u8 ((lastF fs j).toNat : Int) ∧ z = .int .i64 (j : Int) ∧ LD w1 wr d (ordD (fs.take j))) (fun _ _ z _ => 40 - (intOf z).toNat)
  case atStart => exact ⟨0, Nat.zero_le _, rfl, rfl, rfl, H2.out⟩
  case round =>
    obtain ⟨j, hj, rfl, rfl, rfl, h4⟩ := hrel
    have H4 := hide h4
    have hql : Hid ((ordD (fs.take j)).queue.length = j) := hide (by have := HFl.out; simp [ordD]; omega)
    have hsl : Hid ((ordD (fs.take j)).steps = j) := hide (by have := HFl.out; simp [ordD]; omega)
    clear h4 H2
    by_cases hlt : j < 40
    · have hj1 : j < n1 := by omega
      obtain ⟨hll, ad1, hA1, hc1⟩ := By.get (HF.out.below (B1.out.trans (H4.out.bel.mono B1.out.size))) hj1
      have hfj : (l)[j] = fs.getD j 0 := by rw [hfs.out, List.getD_eq_getElem?_getD, List.getElem?_take, if_pos hlt, List.getElem?_eq_getElem hll]; rfl
      rw [hfj] at hc1
      subst hA1
      have hlast : lastF fs (j + 1) = fs.getD j 0 := rfl
      have hwant : wantF fs bs (j + 1) = if bs.getD j false = true then fs.getD j 0 else wantF fs bs j := rfl
      have htk : fs.take (j + 1) = fs.take j ++ [fs.getD j 0] := by
        have hl := HFl.out
        rw [List.take_add_one, List.getD_eq_getElem?_getD, List.getElem?_eq_getElem (by omega)]; rfl
      clear hfj hll
      generalize fs.getD j 0 = f at *
      replace hlast := hide hlast
      replace hwant := hide hwant
      replace htk := hide htk
      go_wp2_with fail
      refine (ld_bytes _ (wr.heap.size + 1) _ 1 1 [f] (by_newx wr f _ rfl) (by simp) (by decide)).mono ?_
      rintro e w5 ⟨g, rfl, hg, hb5, hbl5⟩
      have hgd : g ≠ d := by have := H4.out.lt; simp at hg; omega
      have H5 := hide ((H4.out.alloc (.cells #[.int .u8 (f.toNat : Int)] 5)).below hbl5)
      have G5 := hide hb5
      clear hb5 hbl5 hg
      go_wp2_with fail
      refine (ld_write H5.out 1 g _ (round64 [f]) _ (by show 1 < (List.replicate 3 zero64).length; decide) (by show (-1 : Int) ≠ 0; decide) (by rw [hsl.out]; omega) (by rw [hql.out]; omega) (round64_len _) G5.out u8s_at hgd).mono ?_
      rintro e w6 ⟨rfl, h6, -⟩
      rw [ordD_step, ← htk.out] at h6
      have H6 := hide h6
      clear h6 hgd
      rcases bool_at (H.out.below (B1.out.trans (H6.out.bel.mono B1.out.size))) j with ⟨hjm, ad, hA', hcu⟩ | ⟨hjm, hb⟩
      · subst hA'
        generalize hfb : bs.getD j false = fb at *
        replace hfb := hide hfb
        cases fb
        · go_wp2_with fail
          go_roundw
          case rel => exact ⟨j + 1, by omega, by rw [hwant.out]; rfl, by rw [hlast.out], by go_num, H6.out⟩
          case measure => simp [intOf]; omega
        · go_wp2_with fail
          go_roundw
          case rel => exact ⟨j + 1, by omega, by rw [hwant.out]; rfl, by rw [hlast.out], by go_num, H6.out⟩
          case measure => simp [intOf]; omega
      · replace hb := hide hb
        go_wp2_with fail
        go_roundw
        case rel => exact ⟨j + 1, by omega, by rw [hwant.out, hb.out]; rfl, by rw [hlast.out], by go_num, H6.out⟩
        case measure => simp [intOf]; omega
    · have hjN : j = 40 := by omega
      have hft : Hid (fs.take j = fs) := hide (List.take_of_length_le (by rw [HFl.out]; omega))
      rw [hft.out] at H4 hql hsl
      obtain ⟨wf, hwf⟩ : ∃ x, x = wantF fs bs j := ⟨_, rfl⟩
      obtain ⟨lf, hlf⟩ : ∃ x, x = lastF fs j := ⟨_, rfl⟩
      rw [← hwf, ← hlf]
      have hcj : Hid (fs.length = j) := hide (by rw [HFl.out]; omega)
      replace hwf := hide hwf
      replace hlf := hide hlf
      have cd1 := fun cap pad => ord_crash fs bs (-1) 0 (by decide) cap pad
      have cd2 := fun cap pad => ord_again fs [] (-1) 0 cap pad
      rw [hcj.out, ← hwf.out] at cd1
      rw [hcj.out, ← hlf.out] at cd2
      replace cd1 := hide cd1
      replace cd2 := hide cd2
      go_wp2_with fail
      refine (ld_crash H4.out (by show 1 ≤ (List.replicate 3 zero64).length; decide) _ _ m c bs (H.out.below (B1.out.trans (H4.out.bel.mono B1.out.size))) (Nat.le_trans B1.out.size H4.out.bel.size) hm (-1) 0).mono ?_
      rintro e w5 ⟨cc, cap, pad, rfl, h5⟩
      have C5 := hide h5
      have H5 := hide (H4.out.below h5.bel)
      clear h5
      go_wp2_with fail
      refine (ld_queue H5.out).mono ?_
      rintro e w6 ⟨A6, c6, rfl, -, hb6⟩
      rw [hql.out]
      have C6 := hide (C5.out.below hb6)
      have H6 := hide (H5.out.below hb6)
      have hO := hide (fun k (h1 : wr.heap.size ≤ k) (h2 : k < w6.heap.size) => H4.out.out (C5.out.bel.trans (hb6.mono C5.out.bel.size)) h1 h2)
      clear hb6 C5 H5
      go_wp2_with fail
      refine (ld_barrier H6.out (by show (-1 : Int) ≠ 0; decide) (by rw [hsl.out]; omega)).mono ?_
      rintro e w7 ⟨rfl, h7, gs, hK, hfr⟩
      have C7 : Hid (LD w1 w7 cc ((ordD fs).crashed (crashF bs (-1) 0) cap pad)) := by
        obtain ⟨s, v, hC⟩ := C6.out.ex
        exact hide (LD.of (dsk_keep hC hK (fun k h1 h2 => (hfr k (hO.out k h1 h2)).1)) H4.out.bel.size h7.bel)
      have H7 := hide h7
      clear h7 hK hfr C6 hO
      go_wp2_with fail
      refine (ld_read C7.out 1 (by rw [crashed_len H4.out.ok]; show 1 < (List.replicate 3 zero64).length; decide)).mono ?_
      rintro e w8 ⟨ga, rfl, hga, hba, hbla⟩
      rw [cd1.out] at hba
      have X8 := hide hba
      have H8 := hide (H7.out.below hbla)
      clear hba hbla hga
      go_wp2_with fail
      refine (ld_crash H8.out (by show 1 ≤ (putQ _ _).length; rw [putQ_len]; show 1 ≤ (List.replicate 3 zero64).length; decide) 0 none 0 0 [] Sl.nil_ (Nat.zero_le _) (by decide) (-1) 0).mono ?_
      rintro e w9 ⟨c2, cap2, pad2, rfl, h9⟩
      have C9 := hide (h9.base H8.out.bel)
      have X9 := hide (X8.out.below h9.bel)
      clear h9
      go_wp2_with fail
      refine (ld_read C9.out 1 (by show 1 < (putQ _ _).length; rw [putQ_len]; show 1 < (List.replicate 3 zero64).length; decide)).mono ?_
      rintro e w10 ⟨gb, rfl, hgb, hbb, hblb⟩
      rw [cd2.out] at hbb
      have Y := hide hbb
      have X := hide (X9.out.below hblb)
      have Hb := hide (B1.out.trans ((C9.out.below hblb).bel.mono B1.out.size))
      clear hbb hblb hgb cd1 cd2 X9 X8
      obtain ⟨ra, hra⟩ : ∃ r, r = round64 [wf] := ⟨_, rfl⟩
      obtain ⟨rb2, hrb⟩ : ∃ r, r = round64 [lf] := ⟨_, rfl⟩
      have r1 : Hid (ra.length = 64) := hide (by rw [hra]; exact round64_len _)
      have r2 : Hid (rb2.length = 64) := hide (by rw [hrb]; exact round64_len _)
      rw [← hra] at X
      rw [← hrb] at Y
      replace hra := hide hra
      replace hrb := hide hrb
      obtain ⟨cv, hcv⟩ := cv_ex Try.prog 22 9
      have hS := hide (fun (w' : World) (hb : Below w10.heap.size w10 w') => And.intro (cvt' hcv 64 (by_blk (X.out.below hb) r1.out)) (cvt' hcv 64 (by_blk (Y.out.below hb) r2.out)))
      have s1 := (hS.out _ (Below.refl _ _).drew).1
      have s2 := (hS.out _ (Below.refl _ _).drew).2
      have s3 := (hS.out _ (((Below.refl w10.heap.size w10).alloc (Nat.le_refl _) (.cells #[.int .u8 (wf.toNat : Int)] 5)).drew)).1
      have s4 := (hS.out _ (((Below.refl w10.heap.size w10).alloc (Nat.le_refl _) (.cells #[.int .u8 (wf.toNat : Int)] 5)).drew)).2
      have t1 := txt_eq ra
      have t2 := txt_eq rb2
      go_wp2_with fail
      refine wp_region_noPanic ?_
      refine wp_region_held_drew (S := (fun w' => cv (.slice (some ⟨ga, 0, none⟩) 64 64) w' = .ok (.string (txt ra)) w' ∧ cv (.slice (some ⟨gb, 0, none⟩) 64 64) w' = .ok (.string (txt rb2)) w')) (by kernel_rfl) ?_ (fun hHeld => ?_)
      · ((try dsimp only) <;> (first | trivial | assumption | go_keep))
      refine wpAnyH_take (i := 0) (v := ?_) (by simp only [List.getElem?_toArray, List.getElem?_cons_succ, List.getElem?_cons_zero]; rfl) (by kernel_rfl) (by kernel_rfl) (by kernel_rfl) (fun _ _ _ h => h) (Or.inl ⟨by rfl, ?_⟩) (by assumption) ?_
      rotate_left 1
      · (intro w hSw; (try dsimp only at hSw); go_simp; try with_reducible rfl)
      try simp only [Act.put, List.setIfInBounds_toArray, List.set_cons_zero, List.set_cons_succ]
      refine wpAnyH_take (i := 1) (v := ?_) (by simp only [List.getElem?_toArray, List.getElem?_cons_succ, List.getElem?_cons_zero]; rfl) (by kernel_rfl) (by kernel_rfl) (by kernel_rfl) (fun _ _ _ h => h) (Or.inl ⟨by rfl, ?_⟩) (by assumption) ?_
      rotate_left 1
      · (intro w hSw; (try dsimp only at hSw); go_simp; try with_reducible rfl)
      try simp only [Act.put, List.setIfInBounds_toArray, List.set_cons_zero, List.set_cons_succ]
      refine wpAnyH_take (i := 2) (v := ?_) (by simp only [List.getElem?_toArray, List.getElem?_cons_succ, List.getElem?_cons_zero]; rfl) (by kernel_rfl) (by kernel_rfl) (by kernel_rfl) (fun _ _ _ h => h) (Or.inl ⟨by rfl, ?_⟩) (by assumption) ?_
      rotate_left 1
      · (intro w hSw; (try dsimp only at hSw); go_simp; try with_reducible rfl)
      try simp only [Act.put, List.setIfInBounds_toArray, List.set_cons_zero, List.set_cons_succ]
      refine wpAnyH_take (i := 3) (v := ?_) (by simp only [List.getElem?_toArray, List.getElem?_cons_succ, List.getElem?_cons_zero]; rfl) (by kernel_rfl) (by kernel_rfl) (by kernel_rfl) (fun _ _ _ h => h) (Or.inl ⟨by rfl, ?_⟩) (by assumption) ?_
      rotate_left 1
      · (intro w hSw; (try dsimp only at hSw); go_simp; try with_reducible rfl)
      try simp only [Act.put, List.setIfInBounds_toArray, List.set_cons_zero, List.set_cons_succ]
      refine wpAnyH_take (i := 4) (v := ?_) (by simp only [List.getElem?_toArray, List.getElem?_cons_succ, List.getElem?_cons_zero]; rfl) (by kernel_rfl) (by kernel_rfl) (by kernel_rfl) (fun _ _ _ h => h) (Or.inl ⟨by rfl, ?_⟩) (by assumption) ?_
      rotate_left 1
      · (intro w hSw; (try dsimp only at hSw); go_simp; try with_reducible rfl)
      try simp only [Act.put, List.setIfInBounds_toArray, List.set_cons_zero, List.set_cons_succ]
      refine wpAnyH_take (i := 5) (v := ?_) (by simp only [List.getElem?_toArray, List.getElem?_cons_succ, List.getElem?_cons_zero]; rfl) (by kernel_rfl) (by kernel_rfl) (by kernel_rfl) (fun _ _ _ h => h) (Or.inl ⟨by rfl, ?_⟩) (by assumption) ?_
      rotate_left 1
      · (intro w hSw; (try dsimp only at hSw); go_simp; try with_reducible rfl)
      try simp only [Act.put, List.setIfInBounds_toArray, List.set_cons_zero, List.set_cons_succ]
      refine wpAnyH_take (i := 6) (v := ?_) (by simp only [List.getElem?_toArray, List.getElem?_cons_succ, List.getElem?_cons_zero]; rfl) (by kernel_rfl) (by kernel_rfl) (by kernel_rfl) (fun _ _ _ h => h) (Or.inl ⟨by rfl, ?_⟩) (by assumption) ?_
      rotate_left 1
      · (intro w hSw; (try dsimp only at hSw); go_simp; try with_reducible rfl)
      try simp only [Act.put, List.setIfInBounds_toArray, List.set_cons_zero, List.set_cons_succ]
      refine wpAnyH_take (i := 7) (v := ?_) (by simp only [List.getElem?_toArray, List.getElem?_cons_succ, List.getElem?_cons_zero]; rfl) (by kernel_rfl) (by kernel_rfl) (by kernel_rfl) (fun _ _ _ h => h) (Or.inl ⟨by rfl, ?_⟩) (by assumption) ?_
      rotate_left 1
      · (intro w hSw; (try dsimp only at hSw); go_simp; try with_reducible rfl)
      try simp only [Act.put, List.setIfInBounds_toArray, List.set_cons_zero, List.set_cons_succ]
      refine wpAnyH_take (i := 8) (v := ?_) (by simp only [List.getElem?_toArray, List.getElem?_cons_succ, List.getElem?_cons_zero]; rfl) (by kernel_rfl) (by kernel_rfl) (by kernel_rfl) (fun _ _ _ h => h) (Or.inl ⟨by rfl, ?_⟩) (by assumption) ?_
      rotate_left 1
      · (intro w hSw; (try dsimp only at hSw); go_simp; try with_reducible rfl)
      try simp only [Act.put, List.setIfInBounds_toArray, List.set_cons_zero, List.set_cons_succ]
      refine wpAnyH_take (i := 9) (v := ?_) (by simp only [List.getElem?_toArray, List.getElem?_cons_succ, List.getElem?_cons_zero]; rfl) (by kernel_rfl) (by kernel_rfl) (by kernel_rfl) (fun _ _ _ h => h) (Or.inl ⟨by rfl, ?_⟩) (by assumption) ?_
      rotate_left 1
      · (intro w hSw; (try dsimp only at hSw); go_simp; try with_reducible rfl)
      try simp only [Act.put, List.setIfInBounds_toArray, List.set_cons_zero, List.set_cons_succ]
      refine wpAnyH_ready (rs := [10]) (by kernel_rfl) (by simp) ?_
      refine AllReadyH.cons (by simp only [List.getElem?_toArray, List.getElem?_cons_succ, List.getElem?_cons_zero]; rfl) (fun K hK => ?_) ?_
      rotate_left 1
      · exact AllReadyH.nil
      go_simp
      refine hK.out _ _ ?_ (fun hHeld2 => ?_)
      · ((try dsimp only) <;> (first | trivial | assumption | go_keep))
      clear hHeld
      have hHeld := hHeld2
      clear hHeld2 hK K
      try simp only [Act.put, List.setIfInBounds_toArray, List.set_cons_zero, List.set_cons_succ]
      refine wpAnyH_ready (rs := [11]) (by kernel_rfl) (by simp) ?_
      refine AllReadyH.cons (by simp only [List.getElem?_toArray, List.getElem?_cons_succ, List.getElem?_cons_zero]; rfl) (fun K hK => ?_) ?_
      rotate_left 1
      · exact AllReadyH.nil
      go_simp
      refine (ld_bytes _ (w10.heap.size + 1) _ 1 1 [wf] (by_newx w10.drew wf _ rfl) (by simp) (by decide)).mono ?_; rintro e w11 ⟨g1, rfl, hg1, hb11, hbl11⟩; rw [← hra.out] at hb11; have e1 := cvt' hcv (w := w11) 64 (by_blk hb11 r1.out); have B11 := hide ((((Below.refl w10.heap.size w10).alloc (Nat.le_refl _) (.cells #[.int .u8 (wf.toNat : Int)] 5)).drew).trans (hbl11.mono (by simp))); have s5 := (hS.out _ B11.out).1; have s6 := (hS.out _ B11.out).2; have s7 := (hS.out _ (B11.out.alloc B11.out.size (.cells #[.int .u8 (lf.toNat : Int)] 5))).1; have s8 := (hS.out _ (B11.out.alloc B11.out.size (.cells #[.int .u8 (lf.toNat : Int)] 5))).2; clear hb11 hbl11 hg1; go_wp2_with fail
      refine hK.out _ _ ?_ (fun hHeld2 => ?_)
      · ((try dsimp only) <;> (first | trivial | assumption | go_keep))
      clear hHeld
      have hHeld := hHeld2
      clear hHeld2 hK K
      try simp only [Act.put, List.setIfInBounds_toArray, List.set_cons_zero, List.set_cons_succ]
      refine wpAnyH_ready (rs := [12]) (by kernel_rfl) (by simp) ?_
      refine AllReadyH.cons (by simp only [List.getElem?_toArray, List.getElem?_cons_succ, List.getElem?_cons_zero]; rfl) (fun K hK => ?_) ?_
      rotate_left 1
      · exact AllReadyH.nil
      go_simp
      refine hK.out _ _ ?_ (fun hHeld2 => ?_)
      · ((try dsimp only) <;> (first | trivial | assumption | go_keep))
      clear hHeld
      have hHeld := hHeld2
      clear hHeld2 hK K
      try simp only [Act.put, List.setIfInBounds_toArray, List.set_cons_zero, List.set_cons_succ]
      refine wpAnyH_take (i := 13) (v := ?_) (by simp only [List.getElem?_toArray, List.getElem?_cons_succ, List.getElem?_cons_zero]; rfl) (by kernel_rfl) (by kernel_rfl) (by kernel_rfl) (fun _ _ _ h => h) (Or.inl ⟨by rfl, ?_⟩) (by assumption) ?_
      rotate_left 1
      · (intro w hSw; (try dsimp only at hSw); go_simp; try with_reducible rfl)
      try simp only [Act.put, List.setIfInBounds_toArray, List.set_cons_zero, List.set_cons_succ]
      refine wpAnyH_take (i := 14) (v := ?_) (by simp only [List.getElem?_toArray, List.getElem?_cons_succ, List.getElem?_cons_zero]; rfl) (by kernel_rfl) (by kernel_rfl) (by kernel_rfl) (fun _ _ _ h => h) (Or.inl ⟨by rfl, ?_⟩) (by assumption) ?_
      rotate_left 1
      · (intro w hSw; (try dsimp only at hSw); go_simp; try with_reducible rfl)
      try simp only [Act.put, List.setIfInBounds_toArray, List.set_cons_zero, List.set_cons_succ]
      refine wpAnyH_take (i := 15) (v := ?_) (by simp only [List.getElem?_toArray, List.getElem?_cons_succ, List.getElem?_cons_zero]; rfl) (by kernel_rfl) (by kernel_rfl) (by kernel_rfl) (fun _ _ _ h => h) (Or.inl ⟨by rfl, ?_⟩) (by assumption) ?_
      rotate_left 1
      · (intro w hSw; (try dsimp only at hSw); go_simp; try with_reducible rfl)
      try simp only [Act.put, List.setIfInBounds_toArray, List.set_cons_zero, List.set_cons_succ]
      refine wpAnyH_take (i := 16) (v := ?_) (by simp only [List.getElem?_toArray, List.getElem?_cons_succ, List.getElem?_cons_zero]; rfl) (by kernel_rfl) (by kernel_rfl) (by kernel_rfl) (fun _ _ _ h => h) (Or.inl ⟨by rfl, ?_⟩) (by assumption) ?_
      rotate_left 1
      · (intro w hSw; (try dsimp only at hSw); go_simp; try with_reducible rfl)
      try simp only [Act.put, List.setIfInBounds_toArray, List.set_cons_zero, List.set_cons_succ]
      refine wpAnyH_take (i := 17) (v := ?_) (by simp only [List.getElem?_toArray, List.getElem?_cons_succ, List.getElem?_cons_zero]; rfl) (by kernel_rfl) (by kernel_rfl) (by kernel_rfl) (fun _ _ _ h => h) (Or.inl ⟨by rfl, ?_⟩) (by assumption) ?_
      rotate_left 1
      · (intro w hSw; (try dsimp only at hSw); go_simp; try with_reducible rfl)
      try simp only [Act.put, List.setIfInBounds_toArray, List.set_cons_zero, List.set_cons_succ]
      refine wpAnyH_take (i := 18) (v := ?_) (by simp only [List.getElem?_toArray, List.getElem?_cons_succ, List.getElem?_cons_zero]; rfl) (by kernel_rfl) (by kernel_rfl) (by kernel_rfl) (fun _ _ _ h => h) (Or.inl ⟨by rfl, ?_⟩) (by assumption) ?_
      rotate_left 1
      · (intro w hSw; (try dsimp only at hSw); go_simp; try with_reducible rfl)
      try simp only [Act.put, List.setIfInBounds_toArray, List.set_cons_zero, List.set_cons_succ]
      refine wpAnyH_ready (rs := [19]) (by kernel_rfl) (by simp) ?_
      refine AllReadyH.cons (by simp only [List.getElem?_toArray, List.getElem?_cons_succ, List.getElem?_cons_zero]; rfl) (fun K hK => ?_) ?_
      rotate_left 1
      · exact AllReadyH.nil
      go_simp
      refine hK.out _ _ ?_ (fun hHeld2 => ?_)
      · ((try dsimp only) <;> (first | trivial | assumption | go_keep))
      clear hHeld
      have hHeld := hHeld2
      clear hHeld2 hK K
      try simp only [Act.put, List.setIfInBounds_toArray, List.set_cons_zero, List.set_cons_succ]
      refine wpAnyH_ready (rs := [20]) (by kernel_rfl) (by simp) ?_
      refine AllReadyH.cons (by simp only [List.getElem?_toArray, List.getElem?_cons_succ, List.getElem?_cons_zero]; rfl) (fun K hK => ?_) ?_
      rotate_left 1
      · exact AllReadyH.nil
      go_simp
      refine (ld_bytes _ (w11.heap.size + 1) _ 1 1 [lf] (by_newx w11 lf _ rfl) (by simp) (by decide)).mono ?_; rintro e w12 ⟨g2, rfl, hg2, hb12, hbl12⟩; rw [← hrb.out] at hb12; have e2 := cvt' hcv (w := w12) 64 (by_blk hb12 r2.out); have B12 := hide ((B11.out.alloc B11.out.size (.cells #[.int .u8 (lf.toNat : Int)] 5)).trans (hbl12.mono (Nat.le_trans B11.out.size (by simp)))); have s9 := (hS.out _ B12.out).1; have s10 := (hS.out _ B12.out).2; clear hb12 hbl12 hg2; go_wp2_with fail
      refine hK.out _ _ ?_ (fun hHeld2 => ?_)
      · ((try dsimp only) <;> (first | trivial | assumption | go_keep))
      clear hHeld
      have hHeld := hHeld2
      clear hHeld2 hK K
      try simp only [Act.put, List.setIfInBounds_toArray, List.set_cons_zero, List.set_cons_succ]
      refine wpAnyH_ready (rs := [21]) (by kernel_rfl) (by simp) ?_
      refine AllReadyH.cons (by simp only [List.getElem?_toArray, List.getElem?_cons_succ, List.getElem?_cons_zero]; rfl) (fun K hK => ?_) ?_
      rotate_left 1
      · exact AllReadyH.nil
      go_simp
      refine hK.out _ _ ?_ (fun hHeld2 => ?_)
      · ((try dsimp only) <;> (first | trivial | assumption | go_keep))
      clear hHeld
      have hHeld := hHeld2
      clear hHeld2 hK K
      try simp only [Act.put, List.setIfInBounds_toArray, List.set_cons_zero, List.set_cons_succ]
      refine wpAnyH_take (i := 22) (v := ?_) (by simp only [List.getElem?_toArray, List.getElem?_cons_succ, List.getElem?_cons_zero]; rfl) (by kernel_rfl) (by kernel_rfl) (by kernel_rfl) (fun _ _ _ h => h) (Or.inl ⟨by rfl, ?_⟩) (by assumption) ?_
      rotate_left 1
      · (intro w hSw; (try dsimp only at hSw); go_simp; try with_reducible rfl)
      try simp only [Act.put, List.setIfInBounds_toArray, List.set_cons_zero, List.set_cons_succ]
      refine wpAnyH_take (i := 23) (v := ?_) (by simp only [List.getElem?_toArray, List.getElem?_cons_succ, List.getElem?_cons_zero]; rfl) (by kernel_rfl) (by kernel_rfl) (by kernel_rfl) (fun _ _ _ h => h) (Or.inl ⟨by rfl, ?_⟩) (by assumption) ?_
      rotate_left 1
      · (intro w hSw; (try dsimp only at hSw); go_simp; try with_reducible rfl)
      try simp only [Act.put, List.setIfInBounds_toArray, List.set_cons_zero, List.set_cons_succ]
      refine wpAnyH_take (i := 24) (v := ?_) (by simp only [List.getElem?_toArray, List.getElem?_cons_succ, List.getElem?_cons_zero]; rfl) (by kernel_rfl) (by kernel_rfl) (by kernel_rfl) (fun _ _ _ h => h) (Or.inl ⟨by rfl, ?_⟩) (by assumption) ?_
      rotate_left 1
      · (intro w hSw; (try dsimp only at hSw); go_simp; try with_reducible rfl)
      try simp only [Act.put, List.setIfInBounds_toArray, List.set_cons_zero, List.set_cons_succ]
      refine wpAnyH_done (by kernel_rfl) ?_ _
      refine NoPanic.normal ?_
      go_wp2_with fail
      go_ret
      exact ⟨rfl, Hb.out.trans (B12.out.mono Hb.out.size)⟩

theorem order_all (A1 : Option Addr) (n1 c1 : Nat) (l : List UInt8) (A : Option Addr) (m c : Nat) (bs : List Bool) (w : World) (h1 : By w w.heap.size A1 n1 l)
    (h : Sl w w.heap.size A m (bs.map Value.bool)) (hm : m ≤ 9223372036854775807) (hn1 : n1 ≤ 9223372036854775807) :
    Calls Try.prog 4 #[.slice A1 n1 c1, .slice A m c] w fun e w' => e = .returned (.bool true) ∧ Below w.heap.size w w' := by
  have hl := h1.length
  by_cases h40 : 40 < n1
  · exact order_more A1 n1 c1 (l.take 40) A m c bs w l h40 rfl (by simp; omega) h1 h hm hn1
  · exact order_few A1 n1 c1 l A m c bs w (by omega) hl h1 h hm hn1
end Go.Proofs.Ytpcaaobninnkaaa
