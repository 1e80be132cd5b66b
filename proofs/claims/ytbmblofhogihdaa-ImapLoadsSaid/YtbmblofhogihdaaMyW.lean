/- The walk of marllaw11.ImapLoads (printed by gen_imloads.py). -/
import Derived.Test.YtbmblofhogihdaaMyS
import Derived.Test.YtbmblofhogihdaaTk
namespace Go.Proofs.Ytbmblofhogihdaa
open Go.RowKit
set_option maxRecDepth 100000
attribute [local go_sem ↓] Go.wp_at_zero Go.wp_at_succ

set_option maxHeartbeats 4000000 in
theorem loads_law (n : Int) (w : World) (A : Option Addr) (m c : Nat) (bs : List (List UInt8)) (hbs : BlsAt w A m bs) (hm : m ≤ 9223372036854775807) :
    Calls Try.prog 6 #[.int .i64 n, .slice A m c] w fun e w' => e = .returned (.bool true) ∧ Below w.heap.size w w' := by
  have HBS := hide hbs
  have HL := hide hbs.len
  clear hbs
  go_enter Try.func6, Try.ntmps6
  by_cases hbig : 60 < m
  · have hbg : (60 : Int) < (m : Int) := by omega
    go_upto_region 1 with fail
    go_wp2_with fail
    refine (awake_any w).mono ?_
    rintro r w1 ⟨rfl, hb⟩
    have B1 := hide hb
    clear hb
    go_wp2_with fail
    refine (awake_any w1).mono ?_
    rintro r w2 ⟨rfl, hb⟩
    have B2 := hide (B1.out.trans (hb.mono B1.out.size))
    clear hb
    go_wp2_with fail
    go_ret
    exact ⟨rfl, B2.out⟩
  have hsm : ¬ (60 : Int) < (m : Int) := by omega
  have hm60 : m ≤ 60 := by omega
  clear hbig
  go_upto_region 1 with fail
  go_wp2_with fail
  refine (awake_any w).mono ?_
  rintro r w1 ⟨rfl, hb⟩
  have B1 := hide hb
  clear hb
  go_wp2_with fail
  go_loopw [5, 24] (fun x y W => ∃ (i : Nat) (A1 : Option Addr) (c1 : Nat) (rs : List RowB), i ≤ m ∧ x = .slice A1 i c1 ∧ y = .int .i64 (i : Int) ∧ W.ownsRow w1.heap.size 44 1 (.slice A1 i c1) i (rs.map RowB.v) ∧ OwR w1.heap.size W rs ∧ rs.map RowB.l = bs.take i ∧ (∀ b ∈ bs.take i, b.length ≤ 200) ∧ Below w.heap.size w W ∧ w1.heap.size ≤ W.heap.size) (fun _ y _ => m - (intOf y).toNat)
  case atStart => exact ⟨0, none, 0, [], Nat.zero_le _, rfl, rfl, World.ownsRow_nil _ _ _ _, OwR.nil, rfl, fun b hb => by simp at hb, B1.out, Nat.le_refl _⟩
  case round =>
    obtain ⟨i, A1, c1, rs, hi, rfl, rfl, hA, hR, he, h2, hb, hs⟩ := hrel
    have OA := hide hA
    have RA := hide hR
    have HE := hide he
    have H2 := hide h2
    have BW := hide hb
    have SB := hide hs
    clear hA hR he h2 hb hs
    by_cases hlt : i < m
    · have hjs : (i : Int) < (m : Int) := by omega
      obtain ⟨ad, B, bn, bc, b, rfl, hbi, hcell, hby, hbc, hbm⟩ := (HBS.out.kp BW.out).get hlt
      have hln := hby.length
      have HBI := hide hbi
      have HBY := hide hby
      clear hbi hby
      by_cases h200 : 200 < bn
      · have hg : (200 : Int) < (bn : Int) := by omega
        go_wp2_with fail
        go_ret
        exact ⟨rfl, BW.out⟩
      have hg : ¬ (200 : Int) < (bn : Int) := by omega
      have hb200 : bn ≤ 200 := by omega
      have HT := hide (show bs.take (i + 1) = bs.take i ++ [b] by rw [List.take_add_one, HBI.out]; rfl)
      have HLN := hide hln
      clear h200 hln
      go_upto_region 9 with fail
      clear hcell hg
      go_wp2_with (first
        | (at_builtin
           refine wpList_app _ rfl (.tmp 32) (.tmp 33) _ rfl etyB wr.heap.size (.slice (some ⟨wr.heap.size, 0, none⟩) 0 0) 0 [] rfl (own_nw (Nat.le_refl _)) wr.heap.size B bn bc (u8s b) rfl ?_ (u8s_one _) (by omega) (by simp) ?_
           · exact HBY.out.alloc (Nat.le_refl _) _
           intro A7 c7 W3 r1 r2 _
           rw [Nat.zero_add, List.nil_append] at r1
           have O7 := hide r1
           have B7 := hide (bel_gr ((Below.refl wr.heap.size wr).alloc (Nat.le_refl _) (.cells #[] 5)) r2 (fun g e => by simp [Value.ownBlock] at e; omega) (by simp))
           clear r1 r2)
        | (at_builtin
           refine wpList_app _ rfl (.tmp 31) (.tmp 35) _ rfl etyR w1.heap.size (.slice A1 i c1) i _ rfl ((own_bel OA.out B7.out).alloc _) (W3.heap.size + 1) (some ⟨W3.heap.size, 0, none⟩) 1 1 [.slice A7 bn c7] rfl ?_ (by intro u hu; rw [List.mem_singleton.1 hu]; rfl) (by omega) (Nat.le_trans SB.out (Nat.le_trans B7.out.size (by simp))) ?_
           · exact sl_newM _ _ _
           intro A2 c2 W4 r1 r2 _
           have NX := hide (OwR.next RA.out OA.out SB.out B7.out (r := ⟨A7, bn, c7, b⟩) O7.out r2)
           have O4 := hide r1
           have S4 := hide (Nat.le_trans (Nat.le_trans SB.out B7.out.size) (Nat.le_trans (by simp) r2.size))
           clear r1 r2))
      go_roundw
      case rel =>
        refine ⟨i + 1, A2, c2, rs ++ [⟨A7, bn, c7, b⟩], hlt, rfl, by go_num, ?_, NX.out.1, ?_, ?_, NX.out.2 w B1.out.size BW.out, S4.out⟩
        · rw [List.map_append]
          exact O4.out
        · rw [List.map_append, HE.out, HT.out]
          rfl
        · rw [HT.out]
          intro x hx
          rcases List.mem_append.1 hx with hx | hx
          · exact H2.out x hx
          · rw [List.mem_singleton.1 hx, HLN.out]
            exact hb200
      case measure => simp [intOf]; omega
    have hjs : ¬ (i : Int) < (m : Int) := by omega
    obtain rfl : i = m := by omega
    have ht : bs.take i = bs := List.take_of_length_le (by rw [HL.out]; exact Nat.le_refl _)
    rw [ht] at HE H2
    have HBI := hide (show BlsAt wr A1 i bs by
      have := RA.out.bls OA.out
      rw [HE.out] at this
      exact this)
    clear ht hi hlt
    rcases both_load n bs with ⟨code, hc0, hload⟩ | ⟨k, L, rfl, h4, h200, hLl, hbd, hpk, hload⟩
    · have HLO := hide hload
      have hcd : (code != 0) = true := bne_iff_ne.2 hc0
      clear hload hc0
      go_wp2_with fail
      refine (HLO.out A1 i c1 wr HBI.out).1.mono ?_
      rintro r wa ⟨rfl, hb⟩
      replace OA := hide (own_bel OA.out hb)
      replace RA := hide (RA.out.bel hb)
      replace BW := hide (BW.out.trans (hb.mono BW.out.size))
      clear hb HBI
      go_wp2_with fail
      refine (HLO.out A i c wa (HBS.out.kp BW.out)).2.mono ?_
      rintro r wb ⟨rfl, hb⟩
      replace OA := hide (own_bel OA.out hb)
      replace RA := hide (RA.out.bel hb)
      replace BW := hide (BW.out.trans (hb.mono BW.out.size))
      clear hb HLO
      go_upto_region 13 with fail
      obtain ⟨wc, hw⟩ : ∃ W, W = wb.alloc (.cells #[.slice none 0 0] 48) := ⟨_, rfl⟩
      have hb : Below wb.heap.size wb wc := by rw [hw]; exact (Below.refl _ _).alloc (Nat.le_refl _) _
      rw [← hw]
      replace OA := hide (own_bel OA.out hb)
      replace RA := hide (RA.out.bel hb)
      replace BW := hide (BW.out.trans (hb.mono BW.out.size))
      have EX := hide True.intro
      clear hb hw
      generalize wb.heap.size = g10 at *
      go_upto_region 15 with fail
      obtain ⟨cv, hcv⟩ := cv_ex Try.prog 44 9
      go_wp2_with fail
      go_loopw [62] (fun y W => ∃ j : Nat, j ≤ i ∧ y = .int .i64 (j : Int) ∧ OwR w1.heap.size W (rs.drop j) ∧ W.ownsRow w1.heap.size 44 1 (.slice A1 i c1) i (rs.map RowB.v) ∧ Below w.heap.size w W) (fun y _ => i - (intOf y).toNat)
      case atStart => exact ⟨0, Nat.zero_le _, rfl, RA.out, OA.out, BW.out⟩
      case round =>
        obtain ⟨j, hj, rfl, hR, hA, hb⟩ := hrel
        clear RA OA BW
        have RA := hide hR
        have OA := hide hA
        have BW := hide hb
        clear hR hA hb
        by_cases hlt : j < i
        rotate_left
        · have hjs : ¬ (j : Int) < (i : Int) := by omega
          go_wp2_with fail
          go_ret
          exact ⟨rfl, BW.out⟩
        have hjs : (j : Int) < (i : Int) := by omega
        obtain ⟨ga, ra, rn, rc, rl, rfl, hd, hrl, hca, hro, hln, hrc, hrm⟩ := OwR.at OA.out HE.out RA.out hlt
        obtain ⟨ad, B, bn, bc, b0, rfl, hbj, hcb, hby, hbc, hbm⟩ := (HBS.out.kp BW.out).get hlt
        have hrb : b0 = rl := by
          rw [hrl] at hbj
          injection hbj with hbj
          exact hbj.symm
        subst hrb
        have h200r := H2.out _ (List.mem_of_getElem? hrl)
        rw [hln] at h200r
        have e1 := cvtM hcv (w := wr.drew) rc (Sl.of_own hro).drew
        have e2 := cvtM hcv (w := wr.drew) bc hby.drew
        have RO := hide hro
        have HD := hide hd
        rw [hd] at RA
        clear hro hrl hd hln hrc hrm hbj hby hbc hbm
        go_upto_region 18 with fail
        refine wp_region_noPanic ?_
        refine wp_region_held_drew (S := (fun w' => cv (.slice ra rn rc) w' = .ok (.string (txt b0)) w' ∧ cv (.slice B bn bc) w' = .ok (.string (txt b0)) w' ∧ w'.cell? ⟨ga, j, none⟩ = some (.slice ra rn rc) ∧ w'.cell? (ad.add j) = some (.slice B bn bc))) (by kernel_rfl) ?_ (fun hHeld => ?_)
        · ((try dsimp only) <;> (first | trivial | assumption | go_keep))
        clear e1 e2 hca hcb
        replace RA := hide (RA.out.bel (Below.refl _ _).drew)
        replace RO := hide (own_bel RO.out (Below.refl _ _).drew)
        replace OA := hide (own_bel OA.out (Below.refl _ _).drew)
        replace BW := hide (BW.out.drew)
        generalize wr.drew = wx at *
        refine tk 0 ?_
        refine tk 1 ?_
        refine tk 2 ?_
        refine tk 3 ?_
        refine tk 4 ?_
        refine tk 5 ?_
        refine tk 6 ?_
        refine tk 7 ?_
        refine tk 8 ?_
        refine tk 9 ?_
        refine tk 10 ?_
        refine wpAnyH_done (by kernel_rfl) ?_ _
        refine NoPanic.normal ?_
        obtain ⟨-, -, hca, -⟩ := hHeld
        have HCA := hide hca
        go_upto_region 20 with fail
        go_wp2_with fail
        clear hca
        go_loopw [81] (fun y W => ∃ (s : Nat) (xs : List Value), s ≤ rn ∧ y = .int .i64 (s : Int) ∧ W.ownsRow w1.heap.size 5 1 (.slice ra rn rc) rn xs ∧ (∀ u ∈ xs, ∃ z, u = .int .u8 z) ∧ Kp (Value.slice ra rn rc).ownBlock.toList wx W) (fun y _ => rn - (intOf y).toNat)
        case atStart => exact ⟨0, _, Nat.zero_le _, rfl, RO.out, u8s_intsM _, Kp.refl _ _⟩
        case round =>
          obtain ⟨s, xs, hs, rfl, ho, hxs, hkp⟩ := hrel
          have O7 := hide ho
          have U7 := hide hxs
          have K7 := hide hkp
          clear ho hxs hkp
          have OA7 := hide (own_kq OA.out K7.out (fun q hq => by
            obtain ⟨-, -, cs, hB⟩ := own_blkTM OA.out hq
            exact own_outM RO.out hB (by decide)))
          by_cases hls : s < rn
          · have hks : (s : Int) < (rn : Int) := by omega
            have hca : wr.cell? ⟨ga, j, none⟩ = some (.slice ra rn rc) := by
              obtain ⟨-, hgl, cs, hB⟩ := own_blkTM OA.out (g := ga) rfl
              exact (World.cell?_of_block (K7.out.block ga hgl (own_outM RO.out hB (by decide)))).trans HCA.out
            obtain ⟨gr, z8, rfl, hgr, hc8, hf8, hset⟩ := row_bumpM O7.out U7.out hls
            have HS := hide hset
            clear hset
            go_wp2_with fail
            go_roundw
            case rel => exact ⟨s + 1, _, by omega, by go_num, (HS.out _).choose_spec.1, (HS.out _).choose_spec.2, K7.out.set (.inl (by simp [Value.ownBlock])) _⟩
            case measure => simp [intOf]; omega
          · have hks : ¬ (s : Int) < (rn : Int) := by omega
            have hub : ∀ q ∈ (Value.slice ra rn rc).ownBlock.toList, w1.heap.size ≤ q ∧ ∃ cs, Blk wx q 5 cs := fun q hq => by
              cases hb : (Value.slice ra rn rc).ownBlock with
              | none => rw [hb] at hq; cases hq
              | some g' =>
                rw [hb] at hq
                simp only [Option.toList_some, List.mem_singleton] at hq
                subst hq
                exact ⟨(own_blkTM RO.out hb).1, (own_blkTM RO.out hb).2.2⟩
            have RN := hide (RA.out.bump (r := ⟨ra, rn, rc, b0⟩) K7.out)
            have BW7 := hide (Below.kp2 BW.out K7.out BW.out.size (fun q hq => Nat.le_trans B1.out.size (hub q hq).1))
            clear OA BW RA hub
            go_wp2_with fail
            go_roundw
            case rel => exact ⟨j + 1, hlt, by go_num, RN.out, OA7.out, BW7.out⟩
            case measure => simp [intOf]; omega
    · have HLO := hide hload
      have HLL := hide hLl
      have HBD := hide hbd
      have HPK := hide hpk
      have HK4 := hide (And.intro h4 h200)
      have HQ := hide (show (k + 7) / 8 ≤ 200 by omega)
      clear hload hLl hbd hpk h4 h200
      go_wp2_with fail
      refine (HLO.out A1 i c1 wr HBI.out).1.mono ?_
      rintro r wa ⟨mm, l, b, d, rfl, hI, hb⟩
      have HI := hide hI
      replace OA := hide (own_bel OA.out hb)
      replace RA := hide (RA.out.bel hb)
      replace BW := hide (BW.out.trans (hb.mono BW.out.size))
      clear hb HBI hI
      go_wp2_with fail
      refine (HLO.out A i c wa (HBS.out.kp BW.out)).2.mono ?_
      rintro r wb ⟨g, rfl, hG, hb⟩
      have HG := hide hG
      replace HI := hide (HI.out.kp hb)
      replace OA := hide (own_bel OA.out hb)
      replace RA := hide (RA.out.bel hb)
      replace BW := hide (BW.out.trans (hb.mono BW.out.size))
      clear hb HLO hG
      go_upto_region 13 with fail
      obtain ⟨wc, hw⟩ : ∃ W, W = wb.alloc (.cells #[.slice (some ⟨g, 0, none⟩) k k] 48) := ⟨_, rfl⟩
      have hb : Below wb.heap.size wb wc := by rw [hw]; exact (Below.refl _ _).alloc (Nat.le_refl _) _
      have H10 := hide (show Blk wc wb.heap.size 48 #[.slice (some ⟨g, 0, none⟩) k k] by rw [hw]; exact Blk.new _ _ _)
      rw [← hw]
      replace OA := hide (own_bel OA.out hb)
      replace RA := hide (RA.out.bel hb)
      replace BW := hide (BW.out.trans (hb.mono BW.out.size))
      replace HI := hide (HI.out.kp hb)
      replace HG := hide (HG.out.below hb)
      clear hb hw
      generalize wb.heap.size = g10 at *
      go_upto_region 15 with fail
      obtain ⟨cv, hcv⟩ := cv_ex Try.prog 44 9
      go_wp2_with fail
      go_loopw [62] (fun y W => ∃ j : Nat, j ≤ i ∧ y = .int .i64 (j : Int) ∧ OwR w1.heap.size W (rs.drop j) ∧ W.ownsRow w1.heap.size 44 1 (.slice A1 i c1) i (rs.map RowB.v) ∧ Below w.heap.size w W ∧ ImpA W mm l b d L (List.replicate ((k + 7) / 8) false) ∧ Blk W g 72 (fl inC L) ∧ Blk W g10 48 #[.slice (some ⟨g, 0, none⟩) k k]) (fun y _ => i - (intOf y).toNat)
      case atStart => exact ⟨0, Nat.zero_le _, rfl, RA.out, OA.out, BW.out, HI.out, HG.out, H10.out⟩
      case round =>
        obtain ⟨j, hj, rfl, hR, hA, hb, hI, hG, h10⟩ := hrel
        clear RA OA BW HI HG H10
        have RA := hide hR
        have OA := hide hA
        have BW := hide hb
        have HI := hide hI
        have HG := hide hG
        have H10 := hide h10
        clear hR hA hb hI hG h10
        by_cases hlt : j < i
        rotate_left
        · have hjs : ¬ (j : Int) < (i : Int) := by omega
          have y10 := H10.out.cell 0
          simp only [List.getElem?_toArray, List.getElem?_cons_zero] at y10
          have TL := hide (tells_any wr mm l b d g k k ((k + 7) / 8) L HI.out HQ.out HG.out HLL.out HK4.out.1 HK4.out.2 HBD.out _ rfl HPK.out.symm)
          go_wp2_with fail
          refine TL.out.mono ?_
          rintro r w' ⟨rfl, hb⟩
          replace BW := hide (BW.out.trans (hb.mono BW.out.size))
          clear hb TL
          go_wp2_with fail
          go_ret
          exact ⟨rfl, BW.out⟩
        have hjs : (j : Int) < (i : Int) := by omega
        obtain ⟨ga, ra, rn, rc, rl, rfl, hd, hrl, hca, hro, hln, hrc, hrm⟩ := OwR.at OA.out HE.out RA.out hlt
        obtain ⟨ad, B, bn, bc, b0, rfl, hbj, hcb, hby, hbc, hbm⟩ := (HBS.out.kp BW.out).get hlt
        have hrb : b0 = rl := by
          rw [hrl] at hbj
          injection hbj with hbj
          exact hbj.symm
        subst hrb
        have h200r := H2.out _ (List.mem_of_getElem? hrl)
        rw [hln] at h200r
        have e1 := cvtM hcv (w := wr.drew) rc (Sl.of_own hro).drew
        have e2 := cvtM hcv (w := wr.drew) bc hby.drew
        have RO := hide hro
        have HD := hide hd
        rw [hd] at RA
        clear hro hrl hd hln hrc hrm hbj hby hbc hbm
        go_upto_region 18 with fail
        refine wp_region_noPanic ?_
        refine wp_region_held_drew (S := (fun w' => cv (.slice ra rn rc) w' = .ok (.string (txt b0)) w' ∧ cv (.slice B bn bc) w' = .ok (.string (txt b0)) w' ∧ w'.cell? ⟨ga, j, none⟩ = some (.slice ra rn rc) ∧ w'.cell? (ad.add j) = some (.slice B bn bc))) (by kernel_rfl) ?_ (fun hHeld => ?_)
        · ((try dsimp only) <;> (first | trivial | assumption | go_keep))
        clear e1 e2 hca hcb
        replace RA := hide (RA.out.bel (Below.refl _ _).drew)
        replace RO := hide (own_bel RO.out (Below.refl _ _).drew)
        replace OA := hide (own_bel OA.out (Below.refl _ _).drew)
        replace BW := hide (BW.out.drew)
        replace HI := hide (HI.out.drew)
        replace HG := hide (HG.out.drew)
        replace H10 := hide (H10.out.drew)
        generalize wr.drew = wx at *
        refine tk 0 ?_
        refine tk 1 ?_
        refine tk 2 ?_
        refine tk 3 ?_
        refine tk 4 ?_
        refine tk 5 ?_
        refine tk 6 ?_
        refine tk 7 ?_
        refine tk 8 ?_
        refine tk 9 ?_
        refine tk 10 ?_
        refine wpAnyH_done (by kernel_rfl) ?_ _
        refine NoPanic.normal ?_
        obtain ⟨-, -, hca, -⟩ := hHeld
        have HCA := hide hca
        go_upto_region 20 with fail
        go_wp2_with fail
        clear hca
        go_loopw [81] (fun y W => ∃ (s : Nat) (xs : List Value), s ≤ rn ∧ y = .int .i64 (s : Int) ∧ W.ownsRow w1.heap.size 5 1 (.slice ra rn rc) rn xs ∧ (∀ u ∈ xs, ∃ z, u = .int .u8 z) ∧ Kp (Value.slice ra rn rc).ownBlock.toList wx W) (fun y _ => rn - (intOf y).toNat)
        case atStart => exact ⟨0, _, Nat.zero_le _, rfl, RO.out, u8s_intsM _, Kp.refl _ _⟩
        case round =>
          obtain ⟨s, xs, hs, rfl, ho, hxs, hkp⟩ := hrel
          have O7 := hide ho
          have U7 := hide hxs
          have K7 := hide hkp
          clear ho hxs hkp
          have OA7 := hide (own_kq OA.out K7.out (fun q hq => by
            obtain ⟨-, -, cs, hB⟩ := own_blkTM OA.out hq
            exact own_outM RO.out hB (by decide)))
          by_cases hls : s < rn
          · have hks : (s : Int) < (rn : Int) := by omega
            have hca : wr.cell? ⟨ga, j, none⟩ = some (.slice ra rn rc) := by
              obtain ⟨-, hgl, cs, hB⟩ := own_blkTM OA.out (g := ga) rfl
              exact (World.cell?_of_block (K7.out.block ga hgl (own_outM RO.out hB (by decide)))).trans HCA.out
            obtain ⟨gr, z8, rfl, hgr, hc8, hf8, hset⟩ := row_bumpM O7.out U7.out hls
            have HS := hide hset
            clear hset
            go_wp2_with fail
            go_roundw
            case rel => exact ⟨s + 1, _, by omega, by go_num, (HS.out _).choose_spec.1, (HS.out _).choose_spec.2, K7.out.set (.inl (by simp [Value.ownBlock])) _⟩
            case measure => simp [intOf]; omega
          · have hks : ¬ (s : Int) < (rn : Int) := by omega
            have hub : ∀ q ∈ (Value.slice ra rn rc).ownBlock.toList, w1.heap.size ≤ q ∧ ∃ cs, Blk wx q 5 cs := fun q hq => by
              cases hb : (Value.slice ra rn rc).ownBlock with
              | none => rw [hb] at hq; cases hq
              | some g' =>
                rw [hb] at hq
                simp only [Option.toList_some, List.mem_singleton] at hq
                subst hq
                exact ⟨(own_blkTM RO.out hb).1, (own_blkTM RO.out hb).2.2⟩
            have RN := hide (RA.out.bump (r := ⟨ra, rn, rc, b0⟩) K7.out)
            have BW7 := hide (Below.kp2 BW.out K7.out BW.out.size (fun q hq => Nat.le_trans B1.out.size (hub q hq).1))
            have HI7 := hide (ImpA.kpU HI.out K7.out (fun q hq => (hub q hq).2))
            have HG7 := hide (Blk.kpU HG.out K7.out (fun q hq => (hub q hq).2) (by decide))
            have H107 := hide (Blk.kpU H10.out K7.out (fun q hq => (hub q hq).2) (by decide))
            clear HI HG H10
            clear OA BW RA hub
            go_wp2_with fail
            go_roundw
            case rel => exact ⟨j + 1, hlt, by go_num, RN.out, OA7.out, BW7.out, HI7.out, HG7.out, H107.out⟩
            case measure => simp [intOf]; omega

end Go.Proofs.Ytbmblofhogihdaa
