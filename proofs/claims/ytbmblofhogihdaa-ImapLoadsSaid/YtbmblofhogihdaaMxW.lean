/- The walk of marllaw11.Tells. -/
import Derived.Test.YtbmblofhogihdaaMxS
import Derived.Test.YtbmblofhogihdaaTk
namespace Go.Proofs.Ytbmblofhogihdaa
open Go.RowKit
set_option maxRecDepth 100000
attribute [local go_sem ↓] Go.wp_at_zero Go.wp_at_succ

set_option maxHeartbeats 4000000 in
theorem tells_any (w : World) (m l b d g n c q : Nat) (L : List Ent) (h : ImpA w m l b d L (List.replicate q false)) (hq : q ≤ 200) (hB : Blk w g 72 (fl inC L)) (hl : L.length = n) (h4 : 4 ≤ n) (h200 : n ≤ 200)
    (hbd : ∀ e ∈ L, e.addr < 4096 ∧ e.ver < 65536) (p : List Nat) (hp1 : pickI Ent.busy 1 L = p) (hp2 : pickI Ent.busy 2 (L.drop 1) = p) :
    Calls Try.prog 17 #[.pointer (some ⟨m, 0, none⟩), .agg #[.slice (some ⟨g, 0, none⟩) n c]] w fun e w' => e = .returned (.bool true) ∧ Below w.heap.size w w' := by
  have HL := hide hl
  have HBD := hide hbd
  have HP := hide (And.intro hp1 hp2)
  obtain ⟨w1, hw⟩ : ∃ W, W = w.alloc (.cells #[.slice (some ⟨g, 0, none⟩) n c] 48) := ⟨_, rfl⟩
  have T1 := hide (show TlI w m l b d g w.heap.size n c q L w1 from ⟨by rw [hw]; exact h.alloc _, by rw [hw]; exact hB.alloc _, by rw [hw]; exact Blk.new _ _ _, by rw [hw]; exact (Below.refl _ _).alloc (Nat.le_refl _) _⟩)
  obtain ⟨g1, hg1⟩ : ∃ k, k = w.heap.size := ⟨_, rfl⟩
  rw [← hg1] at T1
  clear h hB hl hbd hp1 hp2
  go_enter Try.func17, Try.ntmps17
  go_upto_region 1 with fail
  rw [← hw, ← hg1]
  clear hw hg1
  go_wp2_with fail
  go_loopw [5] (fun y wr => ∃ z : Int, -1 ≤ z ∧ z ≤ (n : Int) + 2 ∧ y = .int .i64 z ∧ TlI w m l b d g g1 n c q L wr) (fun y _ => ((n : Int) + 3 - intOf y).toNat)
  case atStart => exact ⟨-1, by omega, by omega, rfl, T1.out⟩
  case round =>
    obtain ⟨z, hz1, hz2, rfl, hT⟩ := hrel
    clear T1
    have T1 := hide hT
    clear hT
    have y0 := T1.out.box
    by_cases hlt : z ≤ (n : Int) + 1
    rotate_left
    · go_upto_region 10 with fail
      have hN := (⟨_, rfl⟩ : ∃ N, N = (L.drop 1).countP Ent.gives)
      obtain ⟨N, hN⟩ := hN
      have HNN := hide hN.symm
      have HL1 := hide (show 1 ≤ L.length by rw [HL.out]; omega)
      clear hN
      refine wp_region_noPanic ?_
      refine wp_region_held_drew (S := (fun w' => w'.cell? ⟨g1, 0, none⟩ = some (.slice (some ⟨g, 0, none⟩) n c))) (by kernel_rfl) ?_ (fun hHeld => ?_)
      · ((try dsimp only) <;> (first | trivial | assumption | go_keep))
      replace T1 := hide (T1.out.kp (Below.refl _ _).drew)
      clear y0
      generalize wr.drew = w1d at *
      refine tk 0 ?_
      refine tk 2 ?_
      refine wpAnyH_ready (rs := [1]) (by kernel_rfl) (by simp) ?_
      refine AllReadyH.cons (by simp only [List.getElem?_toArray, List.getElem?_cons_succ, List.getElem?_cons_zero]; rfl) (fun K hK => ?_) ?_
      rotate_left 1
      · exact AllReadyH.nil
      go_simp
      refine (busyM_any m l b d L _ _ T1.out.im HL1.out p HP.out.2).mono ?_; rintro r w2 ⟨A1, n1, c1, rfl, hs, hn1, hb⟩; have S2 := hide hs; have T2 := hide (T1.out.kp hb); have y2 := T2.out.box; clear hs hb
      refine hK.out _ _ ?_ (fun hHeld2 => ?_)
      · ((try dsimp only) <;> (first | trivial | assumption | go_keep))
      clear hHeld
      have hHeld := hHeld2
      clear hHeld2 hK K
      try simp only [Act.put, List.setIfInBounds_toArray, List.set_cons_zero, List.set_cons_succ]
      refine wpAnyH_ready (rs := [3]) (by kernel_rfl) (by simp) ?_
      refine AllReadyH.cons (by simp only [List.getElem?_toArray, List.getElem?_cons_succ, List.getElem?_cons_zero]; rfl) (fun K hK => ?_) ?_
      rotate_left 1
      · exact AllReadyH.nil
      go_simp
      refine (busyR_any w2 g n c L T2.out.hg HL.out h200).mono ?_; rintro r w3 ⟨A2, n2, c2, rfl, hs, hn2, hb⟩; rw [HP.out.1] at hs; have S3 := hide hs; have T3 := hide (T2.out.kp hb); have y3 := T3.out.box; have S2b := hide (S2.out.below hb); have B3 := hide hb; clear hs hb
      refine hK.out _ _ ?_ (fun hHeld2 => ?_)
      · ((try dsimp only) <;> (first | trivial | assumption | go_keep))
      clear hHeld
      have hHeld := hHeld2
      clear hHeld2 hK K
      try simp only [Act.put, List.setIfInBounds_toArray, List.set_cons_zero, List.set_cons_succ]
      refine wpAnyH_ready (rs := [4]) (by kernel_rfl) (by simp) ?_
      refine AllReadyH.cons (by simp only [List.getElem?_toArray, List.getElem?_cons_succ, List.getElem?_cons_zero]; rfl) (fun K hK => ?_) ?_
      rotate_left 1
      · exact AllReadyH.nil
      go_simp
      refine (intsM_any A1 A2 n1 n2 c1 c2 _ _ p w3 S2b.out S3.out B3.out.size (Nat.le_refl _) hn1).mono ?_; rintro r w4 ⟨rfl, hb⟩; have T4 := hide (T3.out.kp hb); have y4 := T4.out.box; clear hb
      refine hK.out _ _ ?_ (fun hHeld2 => ?_)
      · ((try dsimp only) <;> (first | trivial | assumption | go_keep))
      clear hHeld
      have hHeld := hHeld2
      clear hHeld2 hK K
      try simp only [Act.put, List.setIfInBounds_toArray, List.set_cons_zero, List.set_cons_succ]
      refine tk 5 ?_
      refine tk 6 ?_
      refine tk 7 ?_
      refine tk 9 ?_
      refine wpAnyH_ready (rs := [8]) (by kernel_rfl) (by simp) ?_
      refine AllReadyH.cons (by simp only [List.getElem?_toArray, List.getElem?_cons_succ, List.getElem?_cons_zero]; rfl) (fun K hK => ?_) ?_
      rotate_left 1
      · exact AllReadyH.nil
      go_simp
      refine (roomM_any m l b d L _ _ T4.out.im HL1.out N HNN.out).mono ?_; rintro r w5 ⟨rfl, hb⟩; have T5 := hide (T4.out.kp hb); have y5 := T5.out.box; clear hb
      refine hK.out _ _ ?_ (fun hHeld2 => ?_)
      · ((try dsimp only) <;> (first | trivial | assumption | go_keep))
      clear hHeld
      have hHeld := hHeld2
      clear hHeld2 hK K
      try simp only [Act.put, List.setIfInBounds_toArray, List.set_cons_zero, List.set_cons_succ]
      refine wpAnyH_ready (rs := [10]) (by kernel_rfl) (by simp) ?_
      refine AllReadyH.cons (by simp only [List.getElem?_toArray, List.getElem?_cons_succ, List.getElem?_cons_zero]; rfl) (fun K hK => ?_) ?_
      rotate_left 1
      · exact AllReadyH.nil
      go_simp
      refine (roomRM_any w5 g n c L T5.out.hg HL.out h200 (by omega) N HNN.out).mono ?_; rintro r w6 ⟨rfl, hb⟩; have T6 := hide (T5.out.kp hb); have y6 := T6.out.box; clear hb
      refine hK.out _ _ ?_ (fun hHeld2 => ?_)
      · ((try dsimp only) <;> (first | trivial | assumption | go_keep))
      clear hHeld
      have hHeld := hHeld2
      clear hHeld2 hK K
      try simp only [Act.put, List.setIfInBounds_toArray, List.set_cons_zero, List.set_cons_succ]
      refine tk 11 ?_
      refine tk 12 ?_
      refine tk 13 ?_
      refine tk 14 ?_
      refine tk 16 ?_
      refine wpAnyH_ready (rs := [15]) (by kernel_rfl) (by simp) ?_
      refine AllReadyH.cons (by simp only [List.getElem?_toArray, List.getElem?_cons_succ, List.getElem?_cons_zero]; rfl) (fun K hK => ?_) ?_
      rotate_left 1
      · exact AllReadyH.nil
      go_simp
      refine (dirty_none m l b d q L _ T6.out.im hq).mono ?_; rintro r w7 ⟨A3, n3, c3, rfl, hs, hn3, hb⟩; have S7 := hide hs; have T7 := hide (T6.out.kp hb); have y7 := T7.out.box; clear hs hb
      refine hK.out _ _ ?_ (fun hHeld2 => ?_)
      · ((try dsimp only) <;> (first | trivial | assumption | go_keep))
      clear hHeld
      have hHeld := hHeld2
      clear hHeld2 hK K
      try simp only [Act.put, List.setIfInBounds_toArray, List.set_cons_zero, List.set_cons_succ]
      refine wpAnyH_ready (rs := [17]) (by kernel_rfl) (by simp) ?_
      refine AllReadyH.cons (by simp only [List.getElem?_toArray, List.getElem?_cons_succ, List.getElem?_cons_zero]; rfl) (fun K hK => ?_) ?_
      rotate_left 1
      · exact AllReadyH.nil
      go_simp
      refine (dirtyR_any w7 g n c L T7.out.hg HL.out h200).mono ?_; rintro r w8 ⟨A4, n4, c4, rfl, hs, hn4, hb⟩; have S8 := hide hs; have S7b := hide (S7.out.below hb); have T8 := hide (T7.out.kp hb); have y8 := T8.out.box; have B8 := hide hb; clear hs hb
      refine hK.out _ _ ?_ (fun hHeld2 => ?_)
      · ((try dsimp only) <;> (first | trivial | assumption | go_keep))
      clear hHeld
      have hHeld := hHeld2
      clear hHeld2 hK K
      try simp only [Act.put, List.setIfInBounds_toArray, List.set_cons_zero, List.set_cons_succ]
      refine wpAnyH_ready (rs := [18]) (by kernel_rfl) (by simp) ?_
      refine AllReadyH.cons (by simp only [List.getElem?_toArray, List.getElem?_cons_succ, List.getElem?_cons_zero]; rfl) (fun K hK => ?_) ?_
      rotate_left 1
      · exact AllReadyH.nil
      go_simp
      refine (intsM_any A3 A4 n3 n4 c3 c4 _ _ [] w8 S7b.out S8.out B8.out.size (Nat.le_refl _) hn3).mono ?_; rintro r w9 ⟨rfl, hb⟩; have T9 := hide (T8.out.kp hb); have y9 := T9.out.box; clear hb
      refine hK.out _ _ ?_ (fun hHeld2 => ?_)
      · ((try dsimp only) <;> (first | trivial | assumption | go_keep))
      clear hHeld
      have hHeld := hHeld2
      clear hHeld2 hK K
      try simp only [Act.put, List.setIfInBounds_toArray, List.set_cons_zero, List.set_cons_succ]
      refine tk 19 ?_
      refine tk 20 ?_
      refine wpAnyH_done (by kernel_rfl) ?_ _
      refine NoPanic.normal ?_
      clear hHeld T1 T2 T3 T4 T5 T6 T7 T8 y2 y3 y4 y5 y6 y7 y8 S2 S3 S2b B3 S7 S7b S8 B8 HNN hn1 hn2 hn3 hn4
      go_upto_region 12 with fail
      obtain ⟨nk, hK⟩ : ∃ nk, nk = (n + 7) / 8 := ⟨_, rfl⟩
      have HK := hide hK
      have hK26 : nk ≤ 26 := by omega
      clear hK
      refine wp_region_noPanic ?_
      refine wp_region_held_drew (S := (fun w' => w'.cell? ⟨g1, 0, none⟩ = some (.slice (some ⟨g, 0, none⟩) n c))) (by kernel_rfl) ?_ (fun hHeld => ?_)
      · ((try dsimp only) <;> (first | trivial | assumption | go_keep))
      replace T9 := hide (T9.out.kp (Below.refl _ _).drew)
      clear y9
      generalize w9.drew = wd at *
      refine tk 0 ?_
      refine tk 2 ?_
      refine wpAnyH_ready (rs := [1]) (by kernel_rfl) (by simp) ?_
      refine AllReadyH.cons (by simp only [List.getElem?_toArray, List.getElem?_cons_succ, List.getElem?_cons_zero]; rfl) (fun K hK => ?_) ?_
      rotate_left 1
      · exact AllReadyH.nil
      go_simp
      refine (blocksM_any m l b d L _ _ T9.out.im n nk HL.out (by omega) HK.out HBD.out).mono ?_; rintro r wa ⟨A1, c1, rs, rfl, ho, he, hR, hb⟩; have OA := hide ho; have HE := hide he; have RA := hide hR; have Ta := hide (T9.out.kp hb); have ya := Ta.out.box; have Ba := hide hb; clear ho he hR hb
      refine hK.out _ _ ?_ (fun hHeld2 => ?_)
      · ((try dsimp only) <;> (first | trivial | assumption | go_keep))
      clear hHeld
      have hHeld := hHeld2
      clear hHeld2 hK K
      try simp only [Act.put, List.setIfInBounds_toArray, List.set_cons_zero, List.set_cons_succ]
      refine wpAnyH_ready (rs := [3]) (by kernel_rfl) (by simp) ?_
      refine AllReadyH.cons (by simp only [List.getElem?_toArray, List.getElem?_cons_succ, List.getElem?_cons_zero]; rfl) (fun K hK => ?_) ?_
      rotate_left 1
      · exact AllReadyH.nil
      go_simp
      refine (blocksRM_any wa g n c nk L Ta.out.hg HL.out h200 HK.out HBD.out).mono ?_; rintro r wb ⟨A2, c2, rfl, ho, hb⟩; replace OA := hide (own_bel OA.out hb); replace RA := hide (RA.out.bel hb); have OB := hide (own_bq ho Ba.out.size); have Tb := hide (Ta.out.kp hb); have yb := Tb.out.box; clear ho hb
      refine hK.out _ _ ?_ (fun hHeld2 => ?_)
      · ((try dsimp only) <;> (first | trivial | assumption | go_keep))
      clear hHeld
      have hHeld := hHeld2
      clear hHeld2 hK K
      try simp only [Act.put, List.setIfInBounds_toArray, List.set_cons_zero, List.set_cons_succ]
      refine tk 4 ?_
      refine tk 5 ?_
      refine wpAnyH_done (by kernel_rfl) ?_ _
      refine NoPanic.normal ?_
      have BW := hide Tb.out.bel
      have SB := hide T9.out.bel.size
      clear hHeld T9 Ta Tb ya yb Ba
      go_upto_region 15 with fail
      obtain ⟨cv, hcv⟩ := cv_ex Try.prog 44 9
      obtain ⟨tb, htb⟩ : ∃ tb, tb = bkS L nk := ⟨_, rfl⟩
      rw [← htb] at HE OB
      have H64 := hide (show ∀ (i : Nat) (b : List UInt8), tb[i]? = some b → b.length = 64 from fun i b h => by rw [htb] at h; exact bkS_64 h)
      clear htb
      go_wp2_with fail
      go_loopw [93] (fun y W => ∃ i : Nat, i ≤ nk ∧ y = .int .i64 (i : Int) ∧ OwR wd.heap.size W (rs.drop i) ∧ W.ownsRow wd.heap.size 44 1 (.slice A1 nk c1) nk (rs.map RowB.v) ∧ W.ownsRow wd.heap.size 9 1 (.slice A2 nk c2) nk (strV tb) ∧ Below w.heap.size w W) (fun y _ => nk - (intOf y).toNat)
      case atStart => exact ⟨0, Nat.zero_le _, rfl, RA.out, OA.out, OB.out, BW.out⟩
      case round =>
        obtain ⟨i, hi, rfl, hR, hA, hO, hb⟩ := hrel
        clear RA OA OB BW
        have RA := hide hR
        have OA := hide hA
        have OB := hide hO
        have BW := hide hb
        clear hR hA hO hb
        by_cases hlt : i < nk
        rotate_left
        · have hjs : ¬ (i : Int) < (nk : Int) := by omega
          go_wp2_with fail
          go_ret
          exact ⟨rfl, BW.out⟩
        have hjs : (i : Int) < (nk : Int) := by omega
        obtain ⟨ga, ra, rn, rc, rl, rfl, hd, hrl, hca, hro, hln, hrc, hrm⟩ := OwR.at OA.out HE.out RA.out hlt
        obtain ⟨gb, rfl, hcb⟩ := str_at OB.out hlt hrl
        have h64 := H64.out i rl hrl
        have e1 := cvtM hcv (w := wr.drew) rc (Sl.of_own hro).drew
        have RO := hide hro
        have HD := hide hd
        rw [hd] at RA
        obtain rfl : rn = 64 := by omega
        clear hro hrl hd hln h64 hrc
        go_upto_region 18 with fail
        refine wp_region_noPanic ?_
        refine wp_region_held_drew (S := (fun w' => cv (.slice ra 64 rc) w' = .ok (.string (txt rl)) w' ∧ w'.cell? ⟨ga, i, none⟩ = some (.slice ra 64 rc) ∧ w'.cell? ⟨gb, i, none⟩ = some (.string (txt rl)))) (by kernel_rfl) ?_ (fun hHeld => ?_)
        · ((try dsimp only) <;> (first | trivial | assumption | go_keep))
        clear e1 hca hcb
        replace RA := hide (RA.out.bel (Below.refl _ _).drew)
        replace RO := hide (own_bel RO.out (Below.refl _ _).drew)
        replace OA := hide (own_bel OA.out (Below.refl _ _).drew)
        replace OB := hide (own_bel OB.out (Below.refl _ _).drew)
        replace BW := hide (BW.out.drew)
        generalize wr.drew = wx at *
        refine tk 0 ?_
        refine tk 1 ?_
        refine tk 2 ?_
        refine tk 3 ?_
        refine tk 4 ?_
        refine tk 5 ?_
        refine tk 6 ?_
        refine tk 7 ?_
        refine tk 8 ?_
        refine tk 9 ?_
        refine wpAnyH_done (by kernel_rfl) ?_ _
        refine NoPanic.normal ?_
        obtain ⟨-, hca, -⟩ := hHeld
        have HCA := hide hca
        go_upto_region 20 with fail
        go_wp2_with fail
        clear hca
        go_loopw [111] (fun y W => ∃ (k : Nat) (xs : List Value), k ≤ 64 ∧ y = .int .i64 (k : Int) ∧ W.ownsRow wd.heap.size 5 1 (.slice ra 64 rc) 64 xs ∧ (∀ u ∈ xs, ∃ z, u = .int .u8 z) ∧ Kp (Value.slice ra 64 rc).ownBlock.toList wx W) (fun y _ => 64 - (intOf y).toNat)
        case atStart => exact ⟨0, _, Nat.zero_le _, rfl, RO.out, u8s_intsM _, Kp.refl _ _⟩
        case round =>
          obtain ⟨k, xs, hk, rfl, ho, hxs, hkp⟩ := hrel
          have O7 := hide ho
          have U7 := hide hxs
          have K7 := hide hkp
          clear ho hxs hkp
          have OA7 := hide (own_kq OA.out K7.out (fun g hg => by
            obtain ⟨-, -, cs, hB⟩ := own_blkTM OA.out hg
            exact own_outM RO.out hB (by decide)))
          by_cases hlk : k < 64
          · have hks : (k : Int) < 64 := by omega
            have hca : wr.cell? ⟨ga, i, none⟩ = some (.slice ra 64 rc) := by
              obtain ⟨-, hgl, cs, hB⟩ := own_blkTM OA.out (g := ga) rfl
              exact (World.cell?_of_block (K7.out.block ga hgl (own_outM RO.out hB (by decide)))).trans HCA.out
            obtain ⟨gr, z8, rfl, hgr, hc8, hf8, hset⟩ := row_bumpM O7.out U7.out hlk
            have HS := hide hset
            clear hset
            go_wp2_with fail
            go_roundw
            case rel => exact ⟨k + 1, _, by omega, by go_num, (HS.out _).choose_spec.1, (HS.out _).choose_spec.2, K7.out.set (.inl (by simp [Value.ownBlock])) _⟩
            case measure => simp [intOf]; omega
          · have hks : ¬ (k : Int) < 64 := by omega
            have RN := hide (RA.out.bump (r := ⟨ra, 64, rc, rl⟩) K7.out)
            have OB7 := hide (own_kq OB.out K7.out (fun g hg => by
              obtain ⟨-, -, cs, hB⟩ := own_blkTM OB.out hg
              exact own_outM RO.out hB (by decide)))
            have BW7 := hide (Below.kp2 BW.out K7.out BW.out.size (fun g hg => by
              cases hb : (Value.slice ra 64 rc).ownBlock with
              | none => rw [hb] at hg; cases hg
              | some g' =>
                rw [hb] at hg
                simp only [Option.toList_some, List.mem_singleton] at hg
                subst hg
                exact Nat.le_trans SB.out (own_blkTM RO.out hb).1))
            clear OA OB BW RA
            go_wp2_with fail
            go_roundw
            case rel => exact ⟨i + 1, hlt, by go_num, RN.out, OA7.out, OB7.out, BW7.out⟩
            case measure => simp [intOf]; omega
    by_cases hin : 2 ≤ z ∧ z ≤ (n : Int)
    rotate_left
    · have GO := hide (get_out m l b d L _ wr T1.out.im z (by rw [HL.out]; exact hin))
      have hcase : (¬ 2 ≤ z) ∨ (2 ≤ z ∧ ¬ z ≤ (n : Int)) := by omega
      clear hin
      go_wp2_with fail
      refine GO.out.mono ?_
      rintro r w2 ⟨rfl, rfl⟩
      clear GO
      clear y0
      go_upto_region 6 with fail
      obtain ⟨w3, hw⟩ : ∃ W, W = wr.alloc (.cells #[.int .i64 0, .int .i64 0, .bool false, .bool false] 72) := ⟨_, rfl⟩
      have X9 := hide (show Blk w3 wr.heap.size 72 #[.int .i64 0, .int .i64 0, .bool false, .bool false] by rw [hw]; exact Blk.new _ _ _)
      have B9 := hide (show Below wr.heap.size wr w3 by rw [hw]; exact (Below.refl _ _).alloc (Nat.le_refl _) _)
      rw [← hw]
      have T3 := hide (T1.out.kp B9.out)
      have y0 := T3.out.box
      have z0 := X9.out.cell 0
      have z1 := X9.out.cell 1
      have z2 := X9.out.cell 2
      have z3 := X9.out.cell 3
      simp only [List.getElem?_toArray, List.getElem?_cons_succ, List.getElem?_cons_zero] at z0 z1 z2 z3
      clear hw
      generalize wr.heap.size = g9 at *
      rcases hcase with h2 | ⟨h2, h3⟩
      · go_wp2_with fail
        go_roundw
        case rel => exact ⟨z + 1, by omega, by omega, by go_num, T3.out⟩
        case measure => simp [intOf]; omega
      · go_wp2_with fail
        go_roundw
        case rel => exact ⟨z + 1, by omega, by omega, by go_num, T3.out⟩
        case measure => simp [intOf]; omega
    obtain ⟨h2, h3⟩ := hin
    obtain ⟨j, hj⟩ : ∃ j : Nat, z = (j : Int) + 1 := ⟨(z - 1).toNat, by omega⟩
    have hjn : j < n := by omega
    obtain ⟨e, he⟩ : ∃ e, L[j]? = some e := ⟨_, List.getElem?_eq_getElem (by rw [HL.out]; exact hjn)⟩
    have GI := hide (get_in m l b d L _ wr T1.out.im j e he (by omega))
    rw [← hj] at GI
    have HE := hide he
    have hwj : IntKind.i64.wrap (z - 1) = (j : Int) := by rw [IntKind.wrap_i64]; omega
    have hjl : (j : Int) < (n : Int) := by omega
    have hz9 : z ≤ 200 := by omega
    clear he hj hjn
    go_wp2_with fail
    refine GI.out.mono ?_
    rintro r w2 ⟨rfl, hb2⟩
    replace T1 := hide (T1.out.kp hb2)
    clear GI hb2 y0
    go_upto_region 6 with fail
    obtain ⟨w3, hw⟩ : ∃ W, W = w2.alloc (.cells #[.int .i64 0, .int .i64 0, .bool false, .bool false] 72) := ⟨_, rfl⟩
    have X9 := hide (show Blk w3 w2.heap.size 72 #[.int .i64 0, .int .i64 0, .bool false, .bool false] by rw [hw]; exact Blk.new _ _ _)
    have B9 := hide (show Below w2.heap.size w2 w3 by rw [hw]; exact (Below.refl _ _).alloc (Nat.le_refl _) _)
    rw [← hw]
    have T3 := hide (T1.out.kp B9.out)
    have y0 := T3.out.box
    have z0 := X9.out.cell 0
    have z1 := X9.out.cell 1
    have z2 := X9.out.cell 2
    have z3 := X9.out.cell 3
    simp only [List.getElem?_toArray, List.getElem?_cons_succ, List.getElem?_cons_zero] at z0 z1 z2 z3
    clear hw
    obtain ⟨q0, q1, q2, q3⟩ := in_cells T3.out.hg HE.out
    obtain ⟨ev, hev⟩ : ∃ x, x = e.ver := ⟨_, rfl⟩
    obtain ⟨ea, hea⟩ : ∃ x, x = e.addr := ⟨_, rfl⟩
    obtain ⟨eb, heb⟩ : ∃ x, x = e.busy := ⟨_, rfl⟩
    rw [← hev] at q0 ⊢
    rw [← hea] at q1 ⊢
    rw [← heb] at q2 ⊢
    have f0 := X9.out.frozen 0
    have f1 := X9.out.frozen 1
    have f2 := X9.out.frozen 2
    have f3 := X9.out.frozen 3
    clear hev hea heb
    obtain ⟨g9, hg9⟩ : ∃ k, k = w2.heap.size := ⟨_, rfl⟩
    rw [← hg9] at z0 z1 z2 z3 f0 f1 f2 f3 X9 ⊢
    have HG9 := hide hg9
    clear hg9
    go_upto_region 8 with fail
    have X8 := hide ((((X9.out.set 0 (.int .i64 (ev : Int))).set 1 (.int .i64 (ea : Int))).set 2 (.bool eb)).set 3 (.bool false))
    have B8 := hide ((((B9.out.setCell (p := ⟨g9, 0, none⟩) (Nat.le_of_eq HG9.out.symm) (.int .i64 (ev : Int))).setCell (p := ⟨g9, 1, none⟩) (Nat.le_of_eq HG9.out.symm) (.int .i64 (ea : Int))).setCell (p := ⟨g9, 2, none⟩) (Nat.le_of_eq HG9.out.symm) (.bool eb)).setCell (p := ⟨g9, 3, none⟩) (Nat.le_of_eq HG9.out.symm) (.bool false))
    clear y0 q0 q1 q2 q3 z0 z1 z2 z3 f0 f1 f2 f3 X9 T3
    generalize (((w3.setCell ⟨g9, 0, none⟩ (.int .i64 (ev : Int))).setCell ⟨g9, 1, none⟩ (.int .i64 (ea : Int))).setCell ⟨g9, 2, none⟩ (.bool eb)).setCell ⟨g9, 3, none⟩ (.bool false) = w4 at *
    replace T1 := hide (T1.out.kp B8.out)
    have z0 := X8.out.cell 0
    have z1 := X8.out.cell 1
    have z2 := X8.out.cell 2
    simp at z0 z1 z2
    clear B8 B9
    go_wp2_with fail
    go_roundw
    case rel => exact ⟨z + 1, by omega, by omega, by go_num, T1.out⟩
    case measure => simp [intOf]; omega
end Go.Proofs.Ytbmblofhogihdaa
