/- The walk of marllaw02.DiskTwice. -/
import Derived.Test.YtpcaaobninnkaaaPlAny
import Derived.Test.YtpcaaobninnkaaaDrfNW
namespace Go.Proofs.Ytpcaaobninnkaaa
open Go.RowKit
attribute [local go_sem ↓] Go.wp_at_zero Go.wp_at_succ

theorem OpsAt.below {w w' : World} {A : Option Addr} {n : Nat} {os : List OpL} (h : OpsAt w A n os) (hb : Below w.heap.size w w') : OpsAt w' A n os :=
  ⟨h.sl.keep hb, fun o ho => let a := (h.at_ o ho).below hb; { a with b := a.b.more hb.size, keep := a.keep.more hb.size }⟩
/-- A crash of what a crash left changes nothing more. -/
theorem crash_again (D : Dsk) (f f' : Nat → Nat → Bool) (cap cap' : Nat) (pad pad' : Array Value) (i : Nat) : ((D.crashed f cap pad).crashed f' cap' pad').read i = (D.crashed f cap pad).read i := rfl
set_option maxHeartbeats 1000000 in
set_option maxRecDepth 100000 in
theorem twice_all (A : Option Addr) (m c : Nat) (os : List OpL) (Ak : Option Addr) (nk ck : Nat) (ks : List Bool) (a0 a1 : Int) (w : World) (ho0 : OpsAt w A m os) (hm : m ≤ 9223372036854775807) (hk0 : Sl w w.heap.size Ak nk (ks.map Value.bool)) (hnk : nk ≤ 9223372036854775807) :
    Calls Try.prog 8 #[.slice A m c, .slice Ak nk ck, .agg #[.int .i64 a0, .int .i64 a1]] w fun e w' => e = .returned (.bool true) ∧ Below w.heap.size w w' := by
  have hb5 : Below w.heap.size w (w.alloc (.cells #[.int .i64 a0, .int .i64 a1] 42)) := (Below.refl _ _).alloc (Nat.le_refl _) _
  have ho := ho0.below hb5
  have HK : Hid (Sl (w.alloc (.cells #[.int .i64 a0, .int .i64 a1] 42)) (w.alloc (.cells #[.int .i64 a0, .int .i64 a1] 42)).heap.size Ak nk (ks.map Value.bool)) := hide ((hk0.below hb5).more hb5.size)
  have K5 := hide (Blk.new w 42 #[.int .i64 a0, .int .i64 a1])
  have B5 := hide hb5
  clear ho0 hk0 hb5
  go_enter Try.func8, Try.ntmps8
  go_upto_region 1 with fail
  generalize w.alloc (.cells #[.int .i64 a0, .int .i64 a1] 42) = W at *
  go_wp2_with fail
  have HO := hide ho
  clear ho
  refine (awake_any _).mono ?_
  rintro e w1 ⟨rfl, hb1⟩
  have B1 := hide hb1
  clear hb1
  go_wp2_with fail
  refine (ld_new' w1 9 _ rfl (by omega) (by omega)).mono ?_
  rintro e w2 ⟨d, rfl, hd⟩
  have L2 := hide hd
  clear hd
  go_wp2_with fail
  have C3 := rnew_yes 9 w2 (by omega) (by omega)
  refine C3.mono ?_
  rintro e w3 ⟨As, cs, rfl, hrm, hb3⟩
  have P0 := hide (PB.start B1.out L2.out hrm hb3)
  obtain ⟨D0, hD0⟩ : ∃ D, D = freshD 9 := ⟨_, rfl⟩
  rw [← hD0] at P0
  have hs0 : Hid (D0.steps = 0 ∧ D0.queue.length = 0 ∧ D0.sure.length = 9) := hide (by rw [hD0]; exact ⟨rfl, rfl, by show (List.replicate _ _).length = _; rw [List.length_replicate]⟩)
  rw [← hD0, refV_eq]
  have hq0 : Hid (D0.queue.length = 0) := hide hs0.out.2.1
  clear C3 hrm hb3 hD0
  rw [refV_eq] at P0
  go_wp2_with fail
  go_loopw [7, 11, 12] (fun x k y wr => ∃ (i d : Nat) (D : Dsk) (As : Option Addr) (cs : Nat) (Aq : Option Addr) (cq : Nat), i ≤ 40 ∧ i ≤ m ∧ x = .pointer (some ⟨d, 0, none⟩) ∧ k = .bool true ∧ y = .int .i64 (i : Int) ∧ PB W wr w3.heap.size d D As cs Aq cq ∧ D.steps ≤ i ∧ D.queue.length ≤ i ∧ D.sure.length = 9) (fun _ _ y _ => m - (intOf y).toNat)
  case atStart => exact ⟨0, d, D0, As, cs, none, 0, by omega, by omega, rfl, rfl, rfl, P0.out, by rw [hs0.out.1]; exact Nat.le_refl _, by rw [hs0.out.2.1]; exact Nat.le_refl _, hs0.out.2.2⟩
  case round =>
    clear P0 hs0 hq0 L2
    obtain ⟨i, d, D, As, cs, Aq, cq, hi, him, rfl, rfl, rfl, h1, h2, h3, h4⟩ := hrel
    have H1 := hide h1
    have H2 := hide h2
    have H3 := hide h3
    have H4 := hide h4
    clear h1 h2 h3 h4
    by_cases hlt : i < m ∧ i < 40
    · obtain ⟨hlt, hlt6⟩ := hlt
      obtain ⟨b, off, hA, hbl, hat⟩ := HO.out.at (by omega)
      obtain ⟨o, hoa, hoc⟩ := hat i hlt
      obtain ⟨q0, q1, q2, q3, q4, q5⟩ := op_cells hbl hoc H1.out.pj.ld.bel.drew
      have HOA := hide hoa
      have HAT := hide (And.intro hbl hoc)
      subst hA
      clear hat hoa hoc hbl
      obtain ⟨c0, c1, c2, c3, f0, f1, f2, f3⟩ := blk4 H1.out.bk.drew
      go_upto_region 11 with fail
      refine wp_region_noPanic ?_
      refine wp_region_held_drew (S := (fun w' => w'.cell? ⟨b, off + i * 6, none⟩ = some (.int .i64 o.kind) ∧ w'.cell? ⟨b, off + i * 6 + 1, none⟩ = some (.int .i64 o.n) ∧ w'.cell? ⟨b, off + i * 6 + 2, none⟩ = some (.int .i64 o.sectors) ∧ w'.cell? ⟨b, off + i * 6 + 3, none⟩ = some (.slice o.bA o.bn o.bc) ∧ w'.cell? ⟨b, off + i * 6 + 4, none⟩ = some (.bool o.raw) ∧ w'.cell? ⟨b, off + i * 6 + 5, none⟩ = some (.slice o.kA o.kn o.kc))) (by kernel_rfl) ?_ (fun hHeld => ?_)
      · ((try dsimp only) <;> (first | trivial | assumption | go_keep))
      refine wpAnyH_take (i := 0) (v := ?_) (by simp only [List.getElem?_toArray, List.getElem?_cons_succ, List.getElem?_cons_zero]; rfl) (by kernel_rfl) (by kernel_rfl) (by kernel_rfl) (fun _ _ _ h => h) (Or.inl ⟨by rfl, ?_⟩) (by assumption) ?_
      rotate_left 1
      · (intro w hSw; (try dsimp only at hSw); go_simp; try with_reducible rfl)
      try simp only [Act.put, List.setIfInBounds_toArray, List.set_cons_zero, List.set_cons_succ]
      refine wpAnyH_take (i := 2) (v := ?_) (by simp only [List.getElem?_toArray, List.getElem?_cons_succ, List.getElem?_cons_zero]; rfl) (by kernel_rfl) (by kernel_rfl) (by kernel_rfl) (fun _ _ _ h => h) (Or.inl ⟨by rfl, ?_⟩) (by assumption) ?_
      rotate_left 1
      · (intro w hSw; (try dsimp only at hSw); go_simp; try with_reducible rfl)
      try simp only [Act.put, List.setIfInBounds_toArray, List.set_cons_zero, List.set_cons_succ]
      refine wpAnyH_take (i := 3) (v := ?_) (by simp only [List.getElem?_toArray, List.getElem?_cons_succ, List.getElem?_cons_zero]; rfl) (by kernel_rfl) (by kernel_rfl) (by kernel_rfl) (fun _ _ _ h => h) (Or.inl ⟨by rfl, ?_⟩) (by assumption) ?_
      rotate_left 1
      · (intro w hSw; (try dsimp only at hSw); go_simp; try with_reducible rfl)
      try simp only [Act.put, List.setIfInBounds_toArray, List.set_cons_zero, List.set_cons_succ]
      refine wpAnyH_take (i := 4) (v := ?_) (by simp only [List.getElem?_toArray, List.getElem?_cons_succ, List.getElem?_cons_zero]; rfl) (by kernel_rfl) (by kernel_rfl) (by kernel_rfl) (fun _ _ _ h => h) (Or.inl ⟨by rfl, ?_⟩) (by assumption) ?_
      rotate_left 1
      · (intro w hSw; (try dsimp only at hSw); go_simp; try with_reducible rfl)
      try simp only [Act.put, List.setIfInBounds_toArray, List.set_cons_zero, List.set_cons_succ]
      refine wpAnyH_take (i := 5) (v := ?_) (by simp only [List.getElem?_toArray, List.getElem?_cons_succ, List.getElem?_cons_zero]; rfl) (by kernel_rfl) (by kernel_rfl) (by kernel_rfl) (fun _ _ _ h => h) (Or.inl ⟨by rfl, ?_⟩) (by assumption) ?_
      rotate_left 1
      · (intro w hSw; (try dsimp only at hSw); go_simp; try with_reducible rfl)
      try simp only [Act.put, List.setIfInBounds_toArray, List.set_cons_zero, List.set_cons_succ]
      refine wpAnyH_ready (rs := [1]) (by kernel_rfl) (by simp) ?_
      refine AllReadyH.cons (by simp only [List.getElem?_toArray, List.getElem?_cons_succ, List.getElem?_cons_zero]; rfl) (fun K hK => ?_) ?_
      rotate_left 1
      · exact AllReadyH.nil
      go_simp
      refine hK.out _ _ ?_ (fun hHeld2 => ?_)
      · ((try dsimp only) <;> (first | trivial | assumption | go_keep))
      clear hHeld
      have hHeld := hHeld2
      clear hHeld2 hK K
      try simp only [Act.put, List.setIfInBounds_toArray, List.set_cons_zero, List.set_cons_succ]
      refine wpAnyH_ready (rs := [6]) (by kernel_rfl) (by simp) ?_
      refine AllReadyH.cons (by simp only [List.getElem?_toArray, List.getElem?_cons_succ, List.getElem?_cons_zero]; rfl) (fun K hK => ?_) ?_
      rotate_left 1
      · exact AllReadyH.nil
      go_simp
      have CP := play_any H1.out.pj.drew o HOA.out (by have := H2.out; omega) (by have := H3.out; omega) (by have := H4.out; omega); rw [refV_eq] at CP; unfold opV at CP; refine CP.mono ?_; rintro e w6 ⟨d', D', As', cs', Aq', cq', rfl, hp, hf, l1, l2, l3⟩; have N := hide (PB.next H1.out.drew hp hf); have HP := hide hp; have L1 := hide l1; have L2 := hide l2; have L3 := hide l3; clear hp hf l1 l2 l3 CP c0 c1 c2 c3 f0 f1 f2 f3; rw [refV_eq]; obtain ⟨c0, c1, c2, c3, f0, f1, f2, f3⟩ := blk4 N.out.1; go_wp2_with fail
      refine hK.out _ _ ?_ (fun hHeld2 => ?_)
      · ((try dsimp only) <;> (exact op_cells HAT.out.1 HAT.out.2 HP.out.ld.bel))
      clear hHeld
      have hHeld := hHeld2
      clear hHeld2 hK K
      try simp only [Act.put, List.setIfInBounds_toArray, List.set_cons_zero, List.set_cons_succ]
      refine wpAnyH_take (i := 7) (v := ?_) (by simp only [List.getElem?_toArray, List.getElem?_cons_succ, List.getElem?_cons_zero]; rfl) (by kernel_rfl) (by kernel_rfl) (by kernel_rfl) (fun _ _ _ h => h) (Or.inl ⟨by rfl, ?_⟩) (by assumption) ?_
      rotate_left 1
      · (intro w hSw; (try dsimp only at hSw); go_simp; try with_reducible rfl)
      try simp only [Act.put, List.setIfInBounds_toArray, List.set_cons_zero, List.set_cons_succ]
      refine wpAnyH_take (i := 8) (v := ?_) (by simp only [List.getElem?_toArray, List.getElem?_cons_succ, List.getElem?_cons_zero]; rfl) (by kernel_rfl) (by kernel_rfl) (by kernel_rfl) (fun _ _ _ h => h) (Or.inl ⟨by rfl, ?_⟩) (by assumption) ?_
      rotate_left 1
      · (intro w hSw; (try dsimp only at hSw); go_simp; try with_reducible rfl)
      try simp only [Act.put, List.setIfInBounds_toArray, List.set_cons_zero, List.set_cons_succ]
      refine wpAnyH_take (i := 9) (v := ?_) (by simp only [List.getElem?_toArray, List.getElem?_cons_succ, List.getElem?_cons_zero]; rfl) (by kernel_rfl) (by kernel_rfl) (by kernel_rfl) (fun _ _ _ h => h) (Or.inl ⟨by rfl, ?_⟩) (by assumption) ?_
      rotate_left 1
      · (intro w hSw; (try dsimp only at hSw); go_simp; try with_reducible rfl)
      try simp only [Act.put, List.setIfInBounds_toArray, List.set_cons_zero, List.set_cons_succ]
      refine wpAnyH_take (i := 10) (v := ?_) (by simp only [List.getElem?_toArray, List.getElem?_cons_succ, List.getElem?_cons_zero]; rfl) (by kernel_rfl) (by kernel_rfl) (by kernel_rfl) (fun _ _ _ h => h) (Or.inl ⟨by rfl, ?_⟩) (by assumption) ?_
      rotate_left 1
      · (intro w hSw; (try dsimp only at hSw); go_simp; try with_reducible rfl)
      try simp only [Act.put, List.setIfInBounds_toArray, List.set_cons_zero, List.set_cons_succ]
      refine wpAnyH_take (i := 11) (v := ?_) (by simp only [List.getElem?_toArray, List.getElem?_cons_succ, List.getElem?_cons_zero]; rfl) (by kernel_rfl) (by kernel_rfl) (by kernel_rfl) (fun _ _ _ h => h) (Or.inl ⟨by rfl, ?_⟩) (by assumption) ?_
      rotate_left 1
      · (intro w hSw; (try dsimp only at hSw); go_simp; try with_reducible rfl)
      try simp only [Act.put, List.setIfInBounds_toArray, List.set_cons_zero, List.set_cons_succ]
      refine wpAnyH_ready (rs := [12]) (by kernel_rfl) (by simp) ?_
      refine AllReadyH.cons (by simp only [List.getElem?_toArray, List.getElem?_cons_succ, List.getElem?_cons_zero]; rfl) (fun K hK => ?_) ?_
      rotate_left 1
      · exact AllReadyH.nil
      go_simp
      refine hK.out _ _ ?_ (fun hHeld2 => ?_)
      · ((try dsimp only) <;> (exact op_cells HAT.out.1 HAT.out.2 N.out.2.pj.ld.bel))
      clear hHeld
      have hHeld := hHeld2
      clear hHeld2 hK K
      try simp only [Act.put, List.setIfInBounds_toArray, List.set_cons_zero, List.set_cons_succ]
      refine wpAnyH_take (i := 13) (v := ?_) (by simp only [List.getElem?_toArray, List.getElem?_cons_succ, List.getElem?_cons_zero]; rfl) (by kernel_rfl) (by kernel_rfl) (by kernel_rfl) (fun _ _ _ h => h) (Or.inl ⟨by rfl, ?_⟩) (by assumption) ?_
      rotate_left 1
      · (intro w hSw; (try dsimp only at hSw); go_simp; try with_reducible rfl)
      try simp only [Act.put, List.setIfInBounds_toArray, List.set_cons_zero, List.set_cons_succ]
      refine wpAnyH_done (by kernel_rfl) ?_ _
      refine NoPanic.normal ?_
      have N2 := hide N.out.2
      clear hHeld N HP c0 c1 c2 c3 f0 f1 f2 f3 q0 q1 q2 q3 q4 q5 HAT HOA H1
      go_wp2_with fail
      go_roundw
      case rel => exact ⟨i + 1, d', D', As', cs', Aq', cq', by omega, by omega, rfl, rfl, by go_num, N2.out, by have := L2.out; have := H2.out; omega, by have := L3.out; have := H3.out; omega, by rw [L1.out]; exact H4.out⟩
      case measure => simp [intOf]; omega
    · have hout : (i < m ∧ ¬ i < 40) ∨ ¬ i < m := by omega
      clear hlt
      rcases hout with ⟨hm1, hm2⟩ | hm1
      all_goals
        have K6 := hide (K5.out.below (H1.out.pj.ld.bel))
        have k0 : wr.cell? ⟨w.heap.size, 0, none⟩ = some (.int .i64 a0) := K6.out.cell 0
        have k1 : wr.cell? ⟨w.heap.size, 1, none⟩ = some (.int .i64 a1) := K6.out.cell 1
        go_wp2_with fail
        refine (ld_crash H1.out.pj.ld (by have := H4.out; omega) W.heap.size Ak nk ck ks (HK.out.below H1.out.pj.ld.bel) H1.out.pj.ld.sz hnk a0 a1).mono ?_
        rintro e w4 ⟨ca, capa, pada, rfl, ha⟩
        have LA := hide (ha.base H1.out.pj.ld.bel)
        have hca : Hid ((D.crashed (crashF ks a0 a1) capa pada).sure.length = 9) := hide (by rw [crashed_len2 H1.out.pj.ld.ok]; exact H4.out)
        obtain ⟨CA, hCA⟩ : ∃ C, C = D.crashed (crashF ks a0 a1) capa pada := ⟨_, rfl⟩
        rw [← hCA] at LA hca
        have HCA := hide hCA
        clear ha hCA k0 k1 H1
        have k0 : w4.cell? ⟨w.heap.size, 0, none⟩ = some (.int .i64 a0) := (K5.out.below LA.out.bel).cell 0
        have k1 : w4.cell? ⟨w.heap.size, 1, none⟩ = some (.int .i64 a1) := (K5.out.below LA.out.bel).cell 1
        go_wp2_with fail
        refine (ld_crash LA.out (by have := hca.out; omega) W.heap.size Ak nk ck ks (HK.out.below LA.out.bel) LA.out.sz hnk a1 a0).mono ?_
        rintro e w5 ⟨cb, capb, padb, rfl, hb⟩
        have LB := hide (hb.base LA.out.bel)
        have LA2 := hide (LA.out.below hb.bel)
        have hcb : Hid ((CA.crashed (crashF ks a1 a0) capb padb).sure.length = 9) := hide (by rw [crashed_len2 LA.out.ok]; exact hca.out)
        have hrd : Hid (∀ j, (CA.crashed (crashF ks a1 a0) capb padb).read j = CA.read j) := hide (fun j => by rw [HCA.out]; exact crash_again _ _ _ _ _ _ _ _)
        obtain ⟨CB, hCB⟩ : ∃ C, C = CA.crashed (crashF ks a1 a0) capb padb := ⟨_, rfl⟩
        rw [← hCB] at LB hcb hrd
        clear hb hCB LA k0 k1
        obtain ⟨cv, hcv⟩ := cv_ex Try.prog 22 9
        go_wp2_with fail
        go_loopw [15] (fun x wz => ∃ j : Nat, j ≤ 9 ∧ x = .int .i64 (j : Int) ∧ Below w5.heap.size w5 wz) (fun x _ => 9 - (intOf x).toNat)
        case atStart => exact ⟨0, by omega, rfl, Below.refl _ _⟩
        case round =>
          obtain ⟨j, hj, rfl, hbz⟩ := hrel
          have HZ := hide hbz
          clear hbz
          by_cases hlt : j < 9
          · go_wp2_with fail
            refine (ld_read (LA2.out.below HZ.out) j (by have := hca.out; omega)).mono ?_
            rintro e w6 ⟨g6, rfl, hg6, hk6, hb6⟩
            have HZ6 := hide (HZ.out.trans (hb6.mono HZ.out.size))
            have G6 := hide hk6
            have r64 : Hid ((CA.read j).length = 64) := hide (read_len LA2.out j (by have := hca.out; omega))
            obtain ⟨rd, hrd6⟩ : ∃ rd, rd = CA.read j := ⟨_, rfl⟩
            rw [← hrd6] at G6 r64
            replace hrd6 := hide hrd6
            clear hk6 hb6 hg6 HZ
            go_wp2_with fail
            refine (ld_read (LB.out.below HZ6.out) j (by have := hcb.out; omega)).mono ?_
            rintro e w7 ⟨g7, rfl, hg7, hk7, hb7⟩
            rw [hrd.out j, ← hrd6.out] at hk7
            have HZ7 := hide (HZ6.out.trans (hb7.mono HZ6.out.size))
            have e1 := cvt' hcv (w := w7) 64 (by_blk (G6.out.below hb7) r64.out)
            have e2 := cvt' hcv (w := w7) 64 (by_blk hk7 r64.out)
            have ht := txt_eq rd
            clear hk7 hb7 hg7 HZ6 G6
            go_wp2_with fail
            go_roundw
            case rel => exact ⟨j + 1, by omega, by go_num, HZ7.out⟩
            case measure => simp [intOf]; omega
          · go_wp2_with fail
            go_ret
            exact ⟨rfl, B5.out.trans ((LA2.out.below HZ.out).bel.mono B5.out.size)⟩
end Go.Proofs.Ytpcaaobninnkaaa
