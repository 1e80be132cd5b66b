import Derived.Test.YtlobkefacnedeaaDoorJd02
set_option linter.unusedVariables false
set_option linter.unusedSimpArgs false
/- The walk of marllaw15.SegWrites (printed by gen_sgws.py). -/
namespace Go.Proofs.YtlobkefacnedeaaDoor
open Go.RowKit
set_option maxRecDepth 100000
attribute [local go_sem ↓] Go.wp_at_zero Go.wp_at_succ

theorem And.introS {a0 a1 a2 a3 a4 a5 a6 a7 a8 b : Prop} (h : a0 ∧ a1 ∧ a2 ∧ a3 ∧ a4 ∧ a5 ∧ a6 ∧ a7 ∧ a8) (hb : b) : a0 ∧ a1 ∧ a2 ∧ a3 ∧ a4 ∧ a5 ∧ a6 ∧ a7 ∧ a8 ∧ b := ⟨h.1, h.2.1, h.2.2.1, h.2.2.2.1, h.2.2.2.2.1, h.2.2.2.2.2.1, h.2.2.2.2.2.2.1, h.2.2.2.2.2.2.2.1, h.2.2.2.2.2.2.2.2, hb⟩
theorem And.intro4 {a0 a1 a2 a3 b : Prop} (h : a0 ∧ a1 ∧ a2 ∧ a3) (hb : b) : a0 ∧ a1 ∧ a2 ∧ a3 ∧ b := ⟨h.1, h.2.1, h.2.2.1, h.2.2.2, hb⟩
theorem set4r {w : World} {g : Nat} {t : TypeId} {y0 y1 y2 y3 : Value} (h : Blk w g t #[y0, y1, y2, y3]) (x0 x1 x2 x3 : Value) :
    ∃ W, ((((w.setCell ⟨g, 0, none⟩ x0).setCell ⟨g, 1, none⟩ x1).setCell ⟨g, 2, none⟩ x2).setCell ⟨g, 3, none⟩ x3) = W ∧ Kp [g] w W := by
  have hm : ∀ i, (⟨g, i, none⟩ : Addr).block ∈ [g] ∨ w.heap.size ≤ (⟨g, i, none⟩ : Addr).block := fun i => .inl (List.mem_singleton.2 rfl)
  exact ⟨_, rfl, ((((Kp.refl [g] w).set (hm 0) x0).set (hm 1) x1).set (hm 2) x2).set (hm 3) x3⟩
set_option maxHeartbeats 16000000 in
theorem writes15 (w : World) (A : Option Addr) (m c : Nat) (ps : List (Int × PV × List UInt8)) (B : Option Addr) (mb cb : Nat) (bs : List (List UInt8)) (ad : Int) (sp : SpanAt w) (hp : PcsAt w A m ps) (hm : m ≤ 9223372036854775807) (hb : BsAt w.heap.size w B mb bs) (hmb : mb ≤ 9223372036854775807) (had : I64 ad) :
    Calls Tryd.prog 4 #[.slice A m c, .slice B mb cb, .int .i64 ad] w fun r w' => r = .returned (.bool true) ∧ Below w.heap.size w w' := by
  have SP := hide sp
  have HP := hide hp
  have HBS := hide hb
  have HAD := hide had
  clear sp hp hb had
  go_enter Tryd.func4, Tryd.ntmps4
  go_wp2_with fail
  refine (awake15 w SP.out).mono ?_
  rintro r w1 ⟨rfl, hb⟩
  have BW := hide hb
  clear hb
  by_cases h60 : (60 : Int) < (mb : Int)
  · go_wp2_with fail
    refine (awake15 w1 (SP.out.bel BW.out)).mono ?_
    rintro r w2 ⟨rfl, hb⟩
    go_wp2_with fail
    go_ret
    exact ⟨rfl, BW.out.trans (hb.mono BW.out.size)⟩
  replace SP := hide (SP.out.bel BW.out)
  replace HP := hide (HP.out.below BW.out)
  replace HBS := hide (show BsAt w1.heap.size w1 B mb bs from (HBS.out.below BW.out).baseW BW.out.size)
  have h60' : mb ≤ 60 := by omega
  go_wp2_with fail
  clear h60
  refine (written15 w1 60 (by decide) (by decide) A m c ps SP.out HP.out hm).mono ?_
  rintro r w2 ⟨D, d, As, cs, Aq, cq, rfl, hl, hrm, hD1, hD2, hD3, hD4⟩
  have L := hide hl
  have RM := hide hrm
  have HD := hide (And.intro hD1 (And.intro hD2 (And.intro hD3 hD4)))
  clear hl hrm hD1 hD2 hD3 hD4
  unfold refV
  go_upto_region 4 with fail
  obtain ⟨w3, hw⟩ : ∃ W, W = w2.alloc (.cells #[.slice As D.sure.length cs, .slice Aq D.queue.length cq, .int .i64 (D.steps : Int), .int .i64 D.left] 51) := ⟨_, rfl⟩
  have ba := (show Below w2.heap.size w2 w3 by rw [hw]; exact (Below.refl _ _).alloc (Nat.le_refl _) _)
  have X8 : Hid (Blk w3 w2.heap.size 51 #[.slice As D.sure.length cs, .slice Aq D.queue.length cq, .int .i64 (D.steps : Int), .int .i64 D.left]) := hide (by rw [hw]; exact Blk.new _ _ _)
  rw [← hw]
  obtain ⟨g8, hg⟩ : ∃ g, g = w2.heap.size := ⟨_, rfl⟩
  rw [← hg] at X8 ⊢
  replace L := hide (L.out.below ba)
  replace RM := hide (RM.out.below ba)
  clear hw hg ba
  obtain ⟨y0, y1, y2, y3⟩ := op4S X8.out
  have TA := hide (tells_any w3 d D w1.heap.size As cs Aq cq L.out RM.out)
  unfold refV at TA
  go_wp2_with fail
  clear y0 y1 y2 y3
  refine TA.out.mono ?_
  rintro r w4 ⟨rfl, hb⟩
  replace X8 := hide (X8.out.below hb)
  replace L := hide (L.out.below hb)
  replace RM := hide (RM.out.below hb)
  clear hb TA
  go_wp2_with fail
  go_loopw [10] (fun y wr => ∃ i : Nat, i ≤ 62 ∧ y = .int .i64 ((i : Int) - 1) ∧ Below w4.heap.size w4 wr) (fun y _ => 62 - (intOf y + 1).toNat)
  case atStart => exact ⟨0, Nat.zero_le _, rfl, Below.refl _ _⟩
  case round =>
    obtain ⟨i, hi, rfl, hbr⟩ := hrel
    have BR := hide hbr
    clear hbr
    by_cases hlt : i < 62
    rotate_left
    ·
      have h4 : ¬ ((i : Int) - 1 ≤ 60) := by omega
      have BT := hide (L.out.bel.trans (BR.out.mono L.out.sz))
      by_cases h0 : m = 0
      · have he : ((m : Int) == 0) = true := by rw [h0]; rfl
        clear h0
        go_wp2_with fail
        go_ret
        exact ⟨rfl, BW.out.trans (BT.out.mono BW.out.size)⟩
      have he : ((m : Int) == 0) = false := by simpa using h0
      have hm0 : 0 < m := Nat.pos_of_ne_zero h0
      obtain ⟨p, hp⟩ : ∃ p, ps[0]? = some p := ⟨_, List.getElem?_eq_getElem (by rw [HP.out.1]; exact hm0)⟩
      obtain ⟨b0, o0, A1, n1, c1, A2, n2, c2, A3, m3, c3, rfl, hpi⟩ := HP.out.2 0 p hp
      rw [Nat.zero_mul, Nat.add_zero] at hpi
      obtain ⟨a0, u, data⟩ := p
      have PI := hide hpi
      clear h0 hp hpi
      replace L := hide (L.out.below BR.out)
      replace RM := hide (RM.out.below BR.out)
      replace X8 := hide (X8.out.below BR.out)
      clear BR
      have hcl := (PI.out.below BT.out).cell
      have x0 : wr.cell? ⟨b0, o0, none⟩ = some (.int .i64 a0) := hcl 0 _ rfl
      have x1 : wr.cell? ⟨b0, o0 + 1, none⟩ = some (.int .i64 u.e) := hcl 1 _ rfl
      have x2 : wr.cell? ⟨b0, o0 + 2, none⟩ = some (.int .i64 u.c) := hcl 2 _ rfl
      have x3 : wr.cell? ⟨b0, o0 + 3, none⟩ = some (.int .i64 u.i) := hcl 3 _ rfl
      have x4 : wr.cell? ⟨b0, o0 + 4, none⟩ = some (.int .i64 u.p) := hcl 4 _ rfl
      have x5 : wr.cell? ⟨b0, o0 + 5, none⟩ = some (.int .i64 u.x) := hcl 5 _ rfl
      have x6 : wr.cell? ⟨b0, o0 + 6, none⟩ = some (.slice A1 n1 c1) := hcl 6 _ rfl
      have x7 : wr.cell? ⟨b0, o0 + 7, none⟩ = some (.slice A2 n2 c2) := hcl 7 _ rfl
      have x8 : wr.cell? ⟨b0, o0 + 8, none⟩ = some (.slice A3 m3 c3) := hcl 8 _ rfl
      clear hcl
      have FC := hide (few15 wr a0 u A1 A2 A3 n1 c1 n2 c2 m3 c3 _ _ (PI.out.below BT.out).f PI.out.h1 PI.out.h2 PI.out.h3 (fun f hf => (PI.out.hl f hf).2))
      unfold rfC at FC
      go_wp2_with fail
      clear x0 x1 x2 x3 x4 x5 x6 x7 x8 h4
      refine FC.out.mono ?_
      rintro r w9 ⟨⟨ok, rfl, hfw⟩, hb⟩
      replace BT := hide (BT.out.trans (hb.mono BT.out.size))
      replace L := hide (L.out.below hb)
      replace RM := hide (RM.out.below hb)
      replace X8 := hide (X8.out.below hb)
      clear hb FC he
      cases ok with
      | false =>
        clear hfw
        go_wp2_with fail
        go_ret
        exact ⟨rfl, BW.out.trans (BT.out.mono BW.out.size)⟩
      | true =>
        have HFW := hide (hfw rfl)
        clear hfw
        go_wp2_with fail
        go_loopw [80] (fun y wz => ∃ j : Nat, j ≤ mb ∧ y = .int .i64 (j : Int) ∧ (∀ k b, k < j → bs[k]? = some b → b.length ≤ 200) ∧ Below w9.heap.size w9 wz) (fun y _ => mb - (intOf y).toNat)
        case atStart => exact ⟨0, Nat.zero_le _, rfl, fun k b h => absurd h (Nat.not_lt_zero _), Below.refl _ _⟩
        case round =>
          obtain ⟨j, hj, rfl, hall, hbz⟩ := hrel
          have BZ := hide hbz
          have HALL := hide hall
          clear hbz hall
          by_cases hjm : j < mb
          · have hjs : (j : Int) < (mb : Int) := by omega
            obtain ⟨bb, ob, Bj, cj, lj, hB, hc, hlj, -, -⟩ := (HBS.out.below (BT.out.trans (BZ.out.mono BT.out.size))).at hjm
            obtain ⟨nj, hnj⟩ : ∃ n, n = lj.length := ⟨_, rfl⟩
            rw [← hnj] at hc
            have HNJ := hide hnj
            have HLJ := hide hlj
            subst hB
            clear hnj hlj
            by_cases h200 : (200 : Int) < (nj : Int)
            · go_wp2_with fail
              go_ret
              exact ⟨rfl, BW.out.trans ((BT.out.trans (BZ.out.mono BT.out.size)).mono BW.out.size)⟩
            · go_wp2_with fail
              go_roundw
              case rel =>
                refine ⟨j + 1, by omega, by go_num, fun k b hk hb => ?_, BZ.out⟩
                by_cases e : k = j
                · subst e
                  rw [HLJ.out] at hb
                  injection hb with hb
                  subst hb
                  have := HNJ.out
                  omega
                · exact HALL.out k b (by omega) hb
              case measure => simp [intOf]; omega
          have hjs : ¬ (j : Int) < (mb : Int) := by omega
          obtain rfl : j = mb := by omega
          replace BT := hide (BT.out.trans (BZ.out.mono BT.out.size))
          replace L := hide (L.out.below BZ.out)
          replace RM := hide (RM.out.below BZ.out)
          replace X8 := hide (X8.out.below BZ.out)
          clear BZ hj hjm
          have HLB := hide (show ∀ b ∈ bs, b.length ≤ 100000 from fun b hb => by
            obtain ⟨k, hk⟩ := List.mem_iff_getElem?.1 hb
            have hl := HBS.out.len
            have hkl := (List.getElem?_eq_some_iff.1 hk).1
            have := HALL.out k b (by omega) hk
            omega)
          clear HALL
          have PIZ := hide (PI.out.below BT.out)
          have hcl := PIZ.out.cell
          have x1 : wr.cell? ⟨b0, o0 + 1, none⟩ = some (.int .i64 u.e) := hcl 1 _ rfl
          have x2 : wr.cell? ⟨b0, o0 + 1 + 1, none⟩ = some (.int .i64 u.c) := hcl 2 _ rfl
          have x3 : wr.cell? ⟨b0, o0 + 1 + 2, none⟩ = some (.int .i64 u.i) := hcl 3 _ rfl
          have x4 : wr.cell? ⟨b0, o0 + 1 + 3, none⟩ = some (.int .i64 u.p) := hcl 4 _ rfl
          have x5 : wr.cell? ⟨b0, o0 + 1 + 4, none⟩ = some (.int .i64 u.x) := hcl 5 _ rfl
          have x6 : wr.cell? ⟨b0, o0 + 1 + 5, none⟩ = some (.slice A1 n1 c1) := hcl 6 _ rfl
          have x7 : wr.cell? ⟨b0, o0 + 1 + 6, none⟩ = some (.slice A2 n2 c2) := hcl 7 _ rfl
          clear hcl
          have hfw := HFW.out
          have WC := hide (write_any w1 wr d D L.out ad HAD.out u A1 A2 n1 c1 n2 c2 0 0 SP.out (PI.out.f.bx BT.out) (RwAt.bx PI.out.i BT.out) (by omega) (by omega) (by omega) (fun f hf => (PI.out.hl f hf).1) B j cb bs (HBS.out.below BT.out) (by omega) (by have := HD.out.2.2.2; omega) (by rw [HD.out.2.1]; exact Nat.zero_le _))
          obtain ⟨cd, hcd⟩ : ∃ cd, cd = (wrS D ad u bs).1 := ⟨_, rfl⟩
          rw [← hcd] at WC
          have HCD := hide hcd
          unfold partC at WC
          clear hfw hcd
          go_wp2_with fail
          clear x1 x2 x3 x4 x5 x6 x7
          refine WC.out.mono ?_
          rintro r w10 ⟨rfl, hst⟩
          have K := stp_kt L.out hst
          replace X8 := hide (X8.out.kt K (by decide))
          replace RM := hide (RM.out.kt K (by decide) (by decide))
          replace BT := hide hst.ld.bel
          have W10 := hide hst.ld.sz
          clear hst WC K L PIZ
          have HS := hide (show ∀ W, Below w10.heap.size w10 W → W.cell? ⟨g8, 0, none⟩ = some (.slice As D.sure.length cs) ∧ W.cell? ⟨g8, 1, none⟩ = some (.slice Aq D.queue.length cq) ∧ W.cell? ⟨g8, 2, none⟩ = some (.int .i64 (D.steps : Int)) ∧ W.cell? ⟨g8, 3, none⟩ = some (.int .i64 D.left) ∧ W.cell? ⟨b0, o0 + 1, none⟩ = some (.int .i64 u.e) ∧ W.cell? ⟨b0, o0 + 1 + 1, none⟩ = some (.int .i64 u.c) ∧ W.cell? ⟨b0, o0 + 1 + 2, none⟩ = some (.int .i64 u.i) ∧ W.cell? ⟨b0, o0 + 1 + 3, none⟩ = some (.int .i64 u.p) ∧ W.cell? ⟨b0, o0 + 1 + 4, none⟩ = some (.int .i64 u.x) ∧ W.cell? ⟨b0, o0 + 1 + 5, none⟩ = some (.slice A1 n1 c1) ∧ W.cell? ⟨b0, o0 + 1 + 6, none⟩ = some (.slice A2 n2 c2) from fun W hW => by
            have hcl := (PI.out.below (BT.out.trans (hW.mono W10.out))).cell
            exact And.intro4 (op4S (X8.out.below hW)) ⟨hcl 1 _ rfl, hcl 2 _ rfl, hcl 3 _ rfl, hcl 4 _ rfl, hcl 5 _ rfl, hcl 6 _ rfl, hcl 7 _ rfl⟩)
          go_upto_region 22 with fail
          go_cut [19] (fun y wx => y = .int .i64 cd ∧ Below w10.heap.size w10 wx)
          case first =>
            have hcc := HS.out _ (Below.refl _ _)
            refine wp_region_noPanic ?_
            refine wp_region_held_drew (S := (fun w' => w'.cell? ⟨g8, 0, none⟩ = some (.slice As D.sure.length cs) ∧ w'.cell? ⟨g8, 1, none⟩ = some (.slice Aq D.queue.length cq) ∧ w'.cell? ⟨g8, 2, none⟩ = some (.int .i64 (D.steps : Int)) ∧ w'.cell? ⟨g8, 3, none⟩ = some (.int .i64 D.left) ∧ w'.cell? ⟨b0, o0 + 1, none⟩ = some (.int .i64 u.e) ∧ w'.cell? ⟨b0, o0 + 1 + 1, none⟩ = some (.int .i64 u.c) ∧ w'.cell? ⟨b0, o0 + 1 + 2, none⟩ = some (.int .i64 u.i) ∧ w'.cell? ⟨b0, o0 + 1 + 3, none⟩ = some (.int .i64 u.p) ∧ w'.cell? ⟨b0, o0 + 1 + 4, none⟩ = some (.int .i64 u.x) ∧ w'.cell? ⟨b0, o0 + 1 + 5, none⟩ = some (.slice A1 n1 c1) ∧ w'.cell? ⟨b0, o0 + 1 + 6, none⟩ = some (.slice A2 n2 c2))) (by kernel_rfl) ?_ (fun hHeld => ?_)
            · ((try dsimp only) <;> (first | trivial | assumption | go_keep))
            clear hcc
            have BE := hide (Below.refl w10.heap.size w10).drew
            generalize w10.drew = wd at *
            refine tk 0 ?_
            refine tk 1 ?_
            refine tk 2 ?_
            refine tk 3 ?_
            refine tk 4 ?_
            refine tk 5 ?_
            refine tk 6 ?_
            refine wpAnyH_ready (rs := [7, 12]) (by kernel_rfl) (by simp) ?_
            refine AllReadyH.cons (by simp only [List.getElem?_toArray, List.getElem?_cons_succ, List.getElem?_cons_zero]; rfl) (fun K hK => ?_) ?_
            rotate_left 1
            refine AllReadyH.cons (by simp only [List.getElem?_toArray, List.getElem?_cons_succ, List.getElem?_cons_zero]; rfl) (fun K hK => ?_) ?_
            rotate_left 1
            exact AllReadyH.nil
            focus
              have TX := texts15 wd B j cb bs (HBS.out.below (BT.out.trans (BE.out.mono W10.out))).txs (by omega)
              go_simp
              refine TX.mono ?_; rintro r w20 ⟨A7, c7, rfl, ho, hb⟩; have O7 := hide ho; replace BE := hide (BE.out.trans (hb.mono BE.out.size)); have hcc := HS.out _ BE.out; clear hb; clear ho
              refine hK.out _ _ ?_ (fun hHeld2 => ?_)
              · ((try dsimp only) <;> (first | trivial | assumption | go_keep))
              clear hHeld
              have hHeld := hHeld2
              clear hHeld2 hK K
              try simp only [Act.put, List.setIfInBounds_toArray, List.set_cons_zero, List.set_cons_succ]
              clear TX
              clear hHeld
              have hHeld := hcc
              clear hcc
              refine wpAnyH_ready (rs := [8, 12]) (by kernel_rfl) (by simp) ?_
              refine AllReadyH.cons (by simp only [List.getElem?_toArray, List.getElem?_cons_succ, List.getElem?_cons_zero]; rfl) (fun K hK => ?_) ?_
              rotate_left 1
              refine AllReadyH.cons (by simp only [List.getElem?_toArray, List.getElem?_cons_succ, List.getElem?_cons_zero]; rfl) (fun K hK => ?_) ?_
              rotate_left 1
              exact AllReadyH.nil
              focus
                have hfw := HFW.out
                have BQ := BT.out.trans (BE.out.mono W10.out)
                have RW := rwrite15 w1.heap.size As cs Aq cq D ad HAD.out u A1 A2 n1 c1 n2 c2 _ _ _ _ A7 j c7 _ bs w20 (RM.out.below BE.out) (Nat.le_trans W10.out BE.out.size) (PI.out.f.bx BQ) (RwAt.bx PI.out.i BQ) (by omega) (by omega) (by omega) (fun f hf => (PI.out.hl f hf).1) (Sl.of_own O7.out) (Nat.le_refl _) HLB.out (by omega) (by have := HD.out.2.2.2; omega) (by rw [HD.out.2.1]; exact Nat.zero_le _)
                unfold RefAns at RW
                rw [← HCD.out] at RW
                unfold partC refV at RW
                clear hfw BQ
                go_simp
                refine RW.mono ?_; rintro r w21 ⟨As4, cs4, Aq4, cq4, rfl, kk⟩; have hb := kk.bel; replace BE := hide (BE.out.trans (hb.mono BE.out.size)); have hcc := HS.out _ BE.out; clear hb; clear kk
                refine hK.out _ _ ?_ (fun hHeld2 => ?_)
                · ((try dsimp only) <;> (first | trivial | assumption | go_keep))
                clear hHeld
                have hHeld := hHeld2
                clear hHeld2 hK K
                try simp only [Act.put, List.setIfInBounds_toArray, List.set_cons_zero, List.set_cons_succ]
                clear RW O7
                clear hHeld
                have hHeld := hcc
                clear hcc
                refine tk 9 ?_
                refine tk 10 ?_
                refine tk 11 ?_
                refine wpAnyH_ready (rs := [12]) (by kernel_rfl) (by simp) ?_
                refine AllReadyH.cons (by simp only [List.getElem?_toArray, List.getElem?_cons_succ, List.getElem?_cons_zero]; rfl) (fun K hK => ?_) ?_
                rotate_left 1
                · exact AllReadyH.nil
                go_simp
                refine hK.out _ _ ?_ (fun hHeld2 => ?_)
                · ((try dsimp only) <;> (first | trivial | assumption | go_keep))
                clear hHeld
                have hHeld := hHeld2
                clear hHeld2 hK K
                try simp only [Act.put, List.setIfInBounds_toArray, List.set_cons_zero, List.set_cons_succ]
                obtain ⟨w22, hw⟩ : ∃ W, W = w21.alloc (.cells #[.slice none 0 0, .slice none 0 0, .int .i64 0, .int .i64 0] 51) := ⟨_, rfl⟩
                have hb := (show Below w21.heap.size w21 w22 by rw [hw]; exact (Below.refl _ _).alloc (Nat.le_refl _) _)
                have hX := (show Blk w22 w21.heap.size 51 #[.slice none 0 0, .slice none 0 0, .int .i64 0, .int .i64 0] by rw [hw]; exact Blk.new _ _ _)
                rw [← hw]
                clear hw hHeld
                obtain ⟨g18, hg⟩ : ∃ g, g = w21.heap.size := ⟨_, rfl⟩
                have G18 := hide (show w10.heap.size ≤ g18 by rw [hg]; exact BE.out.size)
                rw [← hg] at hX ⊢
                have X18 := hide hX
                replace BE := hide (BE.out.trans (hb.mono BE.out.size))
                skip
                have hHeld := HS.out _ BE.out
                clear hb hX hg
                obtain ⟨y0, y1, y2, y3⟩ := op4S X18.out
                have z := X18.out.frozen
                refine wpAnyH_ready (rs := [13]) (by kernel_rfl) (by simp) ?_
                refine AllReadyH.cons (by simp only [List.getElem?_toArray, List.getElem?_cons_succ, List.getElem?_cons_zero]; rfl) (fun K hK => ?_) ?_
                rotate_left 1
                · exact AllReadyH.nil
                go_simp
                obtain ⟨W, eW, S2⟩ := set4r X18.out (.slice As4 (wrS D ad u bs).2.sure.length cs4) (.slice Aq4 (wrS D ad u bs).2.queue.length cq4) (.int .i64 ((wrS D ad u bs).2.steps : Int)) (.int .i64 (wrS D ad u bs).2.left); have BS := hide (Below.kp2 BE.out S2 BE.out.size (by simpa using G18.out)); have hcc := HS.out _ BS.out; rw [eW]; clear eW
                refine hK.out _ _ ?_ (fun hHeld2 => ?_)
                · ((try dsimp only) <;> (first | trivial | assumption | go_keep))
                clear hHeld
                have hHeld := hHeld2
                clear hHeld2 hK K
                try simp only [Act.put, List.setIfInBounds_toArray, List.set_cons_zero, List.set_cons_succ]
                clear y0 y1 y2 y3 z hHeld
                have hHeld := hcc
                clear hcc
                refine tk 14 ?_
                refine wpAnyH_done (by kernel_rfl) ?_ _
                refine NoPanic.normal ?_
                clear hHeld
                go_wp2_with fail
                go_meet
                exact ⟨rfl, BS.out⟩
              focus
                go_simp
                refine hK.out _ _ ?_ (fun hHeld2 => ?_)
                · ((try dsimp only) <;> (first | trivial | assumption | go_keep))
                clear hHeld
                have hHeld := hHeld2
                clear hHeld2 hK K
                try simp only [Act.put, List.setIfInBounds_toArray, List.set_cons_zero, List.set_cons_succ]
                obtain ⟨w21, hw⟩ : ∃ W, W = w20.alloc (.cells #[.slice none 0 0, .slice none 0 0, .int .i64 0, .int .i64 0] 51) := ⟨_, rfl⟩
                have hb := (show Below w20.heap.size w20 w21 by rw [hw]; exact (Below.refl _ _).alloc (Nat.le_refl _) _)
                have hX := (show Blk w21 w20.heap.size 51 #[.slice none 0 0, .slice none 0 0, .int .i64 0, .int .i64 0] by rw [hw]; exact Blk.new _ _ _)
                rw [← hw]
                clear hw hHeld
                obtain ⟨g18, hg⟩ : ∃ g, g = w20.heap.size := ⟨_, rfl⟩
                have G18 := hide (show w10.heap.size ≤ g18 by rw [hg]; exact BE.out.size)
                rw [← hg] at hX ⊢
                have X18 := hide hX
                replace BE := hide (BE.out.trans (hb.mono BE.out.size))
                replace O7 := hide (own_bel O7.out hb)
                have hHeld := HS.out _ BE.out
                clear hb hX hg
                have hfw := HFW.out
                have BQ := BT.out.trans (BE.out.mono W10.out)
                have RW := rwrite15 w1.heap.size As cs Aq cq D ad HAD.out u A1 A2 n1 c1 n2 c2 _ _ _ _ A7 j c7 _ bs w21 (RM.out.below BE.out) (Nat.le_trans W10.out BE.out.size) (PI.out.f.bx BQ) (RwAt.bx PI.out.i BQ) (by omega) (by omega) (by omega) (fun f hf => (PI.out.hl f hf).1) (Sl.of_own O7.out) (Nat.le_refl _) HLB.out (by omega) (by have := HD.out.2.2.2; omega) (by rw [HD.out.2.1]; exact Nat.zero_le _)
                unfold RefAns at RW
                rw [← HCD.out] at RW
                unfold partC refV at RW
                clear hfw BQ
                refine wpAnyH_ready (rs := [8]) (by kernel_rfl) (by simp) ?_
                refine AllReadyH.cons (by simp only [List.getElem?_toArray, List.getElem?_cons_succ, List.getElem?_cons_zero]; rfl) (fun K hK => ?_) ?_
                rotate_left 1
                · exact AllReadyH.nil
                go_simp
                refine RW.mono ?_; rintro r w22 ⟨As4, cs4, Aq4, cq4, rfl, kk⟩; have hb := kk.bel; replace BE := hide (BE.out.trans (hb.mono BE.out.size)); replace X18 := hide (X18.out.below hb); have hcc := HS.out _ BE.out; clear hb; clear kk
                refine hK.out _ _ ?_ (fun hHeld2 => ?_)
                · ((try dsimp only) <;> (first | trivial | assumption | go_keep))
                clear hHeld
                have hHeld := hHeld2
                clear hHeld2 hK K
                try simp only [Act.put, List.setIfInBounds_toArray, List.set_cons_zero, List.set_cons_succ]
                clear RW O7
                clear hHeld
                have hHeld := hcc
                clear hcc
                refine tk 9 ?_
                refine tk 10 ?_
                refine tk 11 ?_
                obtain ⟨y0, y1, y2, y3⟩ := op4S X18.out
                have z := X18.out.frozen
                refine wpAnyH_ready (rs := [13]) (by kernel_rfl) (by simp) ?_
                refine AllReadyH.cons (by simp only [List.getElem?_toArray, List.getElem?_cons_succ, List.getElem?_cons_zero]; rfl) (fun K hK => ?_) ?_
                rotate_left 1
                · exact AllReadyH.nil
                go_simp
                obtain ⟨W, eW, S2⟩ := set4r X18.out (.slice As4 (wrS D ad u bs).2.sure.length cs4) (.slice Aq4 (wrS D ad u bs).2.queue.length cq4) (.int .i64 ((wrS D ad u bs).2.steps : Int)) (.int .i64 (wrS D ad u bs).2.left); have BS := hide (Below.kp2 BE.out S2 BE.out.size (by simpa using G18.out)); have hcc := HS.out _ BS.out; rw [eW]; clear eW
                refine hK.out _ _ ?_ (fun hHeld2 => ?_)
                · ((try dsimp only) <;> (first | trivial | assumption | go_keep))
                clear hHeld
                have hHeld := hHeld2
                clear hHeld2 hK K
                try simp only [Act.put, List.setIfInBounds_toArray, List.set_cons_zero, List.set_cons_succ]
                clear y0 y1 y2 y3 z hHeld
                have hHeld := hcc
                clear hcc
                refine tk 14 ?_
                refine wpAnyH_done (by kernel_rfl) ?_ _
                refine NoPanic.normal ?_
                clear hHeld
                go_wp2_with fail
                go_meet
                exact ⟨rfl, BS.out⟩
            focus
              go_simp
              refine hK.out _ _ ?_ (fun hHeld2 => ?_)
              · ((try dsimp only) <;> (first | trivial | assumption | go_keep))
              clear hHeld
              have hHeld := hHeld2
              clear hHeld2 hK K
              try simp only [Act.put, List.setIfInBounds_toArray, List.set_cons_zero, List.set_cons_succ]
              obtain ⟨w20, hw⟩ : ∃ W, W = wd.alloc (.cells #[.slice none 0 0, .slice none 0 0, .int .i64 0, .int .i64 0] 51) := ⟨_, rfl⟩
              have hb := (show Below wd.heap.size wd w20 by rw [hw]; exact (Below.refl _ _).alloc (Nat.le_refl _) _)
              have hX := (show Blk w20 wd.heap.size 51 #[.slice none 0 0, .slice none 0 0, .int .i64 0, .int .i64 0] by rw [hw]; exact Blk.new _ _ _)
              rw [← hw]
              clear hw hHeld
              obtain ⟨g18, hg⟩ : ∃ g, g = wd.heap.size := ⟨_, rfl⟩
              have G18 := hide (show w10.heap.size ≤ g18 by rw [hg]; exact BE.out.size)
              rw [← hg] at hX ⊢
              have X18 := hide hX
              replace BE := hide (BE.out.trans (hb.mono BE.out.size))
              skip
              have hHeld := HS.out _ BE.out
              clear hb hX hg
              have TX := texts15 w20 B j cb bs (HBS.out.below (BT.out.trans (BE.out.mono W10.out))).txs (by omega)
              refine wpAnyH_ready (rs := [7]) (by kernel_rfl) (by simp) ?_
              refine AllReadyH.cons (by simp only [List.getElem?_toArray, List.getElem?_cons_succ, List.getElem?_cons_zero]; rfl) (fun K hK => ?_) ?_
              rotate_left 1
              · exact AllReadyH.nil
              go_simp
              refine TX.mono ?_; rintro r w21 ⟨A7, c7, rfl, ho, hb⟩; have O7 := hide ho; replace BE := hide (BE.out.trans (hb.mono BE.out.size)); replace X18 := hide (X18.out.below hb); have hcc := HS.out _ BE.out; clear hb; clear ho
              refine hK.out _ _ ?_ (fun hHeld2 => ?_)
              · ((try dsimp only) <;> (first | trivial | assumption | go_keep))
              clear hHeld
              have hHeld := hHeld2
              clear hHeld2 hK K
              try simp only [Act.put, List.setIfInBounds_toArray, List.set_cons_zero, List.set_cons_succ]
              clear TX
              clear hHeld
              have hHeld := hcc
              clear hcc
              have hfw := HFW.out
              have BQ := BT.out.trans (BE.out.mono W10.out)
              have RW := rwrite15 w1.heap.size As cs Aq cq D ad HAD.out u A1 A2 n1 c1 n2 c2 _ _ _ _ A7 j c7 _ bs w21 (RM.out.below BE.out) (Nat.le_trans W10.out BE.out.size) (PI.out.f.bx BQ) (RwAt.bx PI.out.i BQ) (by omega) (by omega) (by omega) (fun f hf => (PI.out.hl f hf).1) (Sl.of_own O7.out) (Nat.le_refl _) HLB.out (by omega) (by have := HD.out.2.2.2; omega) (by rw [HD.out.2.1]; exact Nat.zero_le _)
              unfold RefAns at RW
              rw [← HCD.out] at RW
              unfold partC refV at RW
              clear hfw BQ
              refine wpAnyH_ready (rs := [8]) (by kernel_rfl) (by simp) ?_
              refine AllReadyH.cons (by simp only [List.getElem?_toArray, List.getElem?_cons_succ, List.getElem?_cons_zero]; rfl) (fun K hK => ?_) ?_
              rotate_left 1
              · exact AllReadyH.nil
              go_simp
              refine RW.mono ?_; rintro r w22 ⟨As4, cs4, Aq4, cq4, rfl, kk⟩; have hb := kk.bel; replace BE := hide (BE.out.trans (hb.mono BE.out.size)); replace X18 := hide (X18.out.below hb); have hcc := HS.out _ BE.out; clear hb; clear kk
              refine hK.out _ _ ?_ (fun hHeld2 => ?_)
              · ((try dsimp only) <;> (first | trivial | assumption | go_keep))
              clear hHeld
              have hHeld := hHeld2
              clear hHeld2 hK K
              try simp only [Act.put, List.setIfInBounds_toArray, List.set_cons_zero, List.set_cons_succ]
              clear RW O7
              clear hHeld
              have hHeld := hcc
              clear hcc
              refine tk 9 ?_
              refine tk 10 ?_
              refine tk 11 ?_
              obtain ⟨y0, y1, y2, y3⟩ := op4S X18.out
              have z := X18.out.frozen
              refine wpAnyH_ready (rs := [13]) (by kernel_rfl) (by simp) ?_
              refine AllReadyH.cons (by simp only [List.getElem?_toArray, List.getElem?_cons_succ, List.getElem?_cons_zero]; rfl) (fun K hK => ?_) ?_
              rotate_left 1
              · exact AllReadyH.nil
              go_simp
              obtain ⟨W, eW, S2⟩ := set4r X18.out (.slice As4 (wrS D ad u bs).2.sure.length cs4) (.slice Aq4 (wrS D ad u bs).2.queue.length cq4) (.int .i64 ((wrS D ad u bs).2.steps : Int)) (.int .i64 (wrS D ad u bs).2.left); have BS := hide (Below.kp2 BE.out S2 BE.out.size (by simpa using G18.out)); have hcc := HS.out _ BS.out; rw [eW]; clear eW
              refine hK.out _ _ ?_ (fun hHeld2 => ?_)
              · ((try dsimp only) <;> (first | trivial | assumption | go_keep))
              clear hHeld
              have hHeld := hHeld2
              clear hHeld2 hK K
              try simp only [Act.put, List.setIfInBounds_toArray, List.set_cons_zero, List.set_cons_succ]
              clear y0 y1 y2 y3 z hHeld
              have hHeld := hcc
              clear hcc
              refine tk 14 ?_
              refine wpAnyH_done (by kernel_rfl) ?_ _
              refine NoPanic.normal ?_
              clear hHeld
              go_wp2_with fail
              go_meet
              exact ⟨rfl, BS.out⟩
          case rest =>
            obtain ⟨rfl, hbx⟩ := hcut
            have ne1 : (cd == cd) = true := by simp
            go_wp2_with fail
            go_ret
            exact ⟨rfl, BW.out.trans ((BT.out.trans (hbx.mono W10.out)).mono BW.out.size)⟩
    obtain ⟨j, hj⟩ : ∃ j : Int, j = (i : Int) - 1 := ⟨_, rfl⟩
    have HJ := hide hj
    have hj60 : j ≤ 60 := by omega
    have hj0 : -1 ≤ j := by omega
    rw [← hj]
    clear hj
    have LR := hide (L.out.below BR.out)
    have RD := hide (read_any w1 wr d D LR.out j (by unfold I64; omega) SP.out)
    go_wp2_with fail
    refine RD.out.mono ?_
    rintro r w5 ⟨⟨F1, f1, F2, f2, F3, f3, gs3, rfl, hfd⟩, hb⟩
    have SR := hide (show ∀ W, Below w5.heap.size w5 W → Calls Tryd.prog 20 #[.agg (refV As cs Aq cq D), .int .i64 j] W fun r w' => RrAns D j W.heap.size r w' ∧ Below W.heap.size W w' from fun W hW => rread15 W w1.heap.size As cs Aq cq D (((RM.out.below BR.out).below hb).below hW) j (by unfold I64; omega))
    replace BR := hide (BR.out.trans (hb.mono BR.out.size))
    clear hb RD LR
    have HBD := hide (rdS_bd D j)
    obtain ⟨T, hT⟩ : ∃ T, T = rdS D j := ⟨_, rfl⟩
    unfold RrAns at SR
    rw [← hT] at hfd HBD SR ⊢
    clear hT
    obtain ⟨gc, v, l⟩ := T
    dsimp only at hfd HBD SR ⊢
    obtain ⟨aa, haa⟩ : ∃ aa : Int, aa = if gc = 0 then j else 0 := ⟨_, rfl⟩
    rw [← haa] at SR ⊢
    have FD := hide hfd
    clear hfd haa
    unfold fdC
    unfold fdC refV at SR
    go_upto_region 10 with fail
    obtain ⟨w6, hw⟩ : ∃ W, W = w5.alloc (.cells #[.int .i64 aa, .int .i64 v.e, .int .i64 v.c, .int .i64 v.i, .int .i64 v.p, .int .i64 v.x, .slice F1 v.fs.length f1, .slice F2 v.is.length f2, .slice F3 l.length f3] 39) := ⟨_, rfl⟩
    have ba := (show Below w5.heap.size w5 w6 by rw [hw]; exact (Below.refl _ _).alloc (Nat.le_refl _) _)
    have X11 : Hid (Blk w6 w5.heap.size 39 #[.int .i64 aa, .int .i64 v.e, .int .i64 v.c, .int .i64 v.i, .int .i64 v.p, .int .i64 v.x, .slice F1 v.fs.length f1, .slice F2 v.is.length f2, .slice F3 l.length f3]) := hide (by rw [hw]; exact Blk.new _ _ _)
    rw [← hw]
    obtain ⟨g11, hg⟩ : ∃ g, g = w5.heap.size := ⟨_, rfl⟩
    rw [← hg] at X11 ⊢
    have SRW := SR.out w6 (by rw [hg] at *; exact ba)
    replace BR := hide (BR.out.trans (ba.mono BR.out.size))
    replace FD := hide (FD.out.below ba)
    clear hw hg ba SR
    obtain ⟨y0, y1, y2, y3⟩ := op4S (X8.out.below BR.out)
    go_wp2_with fail
    clear y0 y1 y2 y3
    refine SRW.mono ?_
    rintro r w7 ⟨⟨E1, e1, E2, e2, E3, e3, rfl, hf, hi2, ho⟩, hb⟩
    have EF := hide hf
    have EI := hide hi2
    have EO := hide ho
    replace X11 := hide (X11.out.below hb)
    replace FD := hide (FD.out.below hb)
    replace BR := hide (BR.out.trans (hb.mono BR.out.size))
    clear hb SRW hf hi2 ho
    go_upto_region 11 with fail
    obtain ⟨w8, hw⟩ : ∃ W, W = w7.alloc (.cells #[.int .i64 aa, .int .i64 v.e, .int .i64 v.c, .int .i64 v.i, .int .i64 v.p, .int .i64 v.x, .slice E1 v.fs.length e1, .slice E2 v.is.length e2, .slice E3 l.length e3] 45) := ⟨_, rfl⟩
    have ba := (show Below w7.heap.size w7 w8 by rw [hw]; exact (Below.refl _ _).alloc (Nat.le_refl _) _)
    have X13 : Hid (Blk w8 w7.heap.size 45 #[.int .i64 aa, .int .i64 v.e, .int .i64 v.c, .int .i64 v.i, .int .i64 v.p, .int .i64 v.x, .slice E1 v.fs.length e1, .slice E2 v.is.length e2, .slice E3 l.length e3]) := hide (by rw [hw]; exact Blk.new _ _ _)
    rw [← hw]
    obtain ⟨g13, hg⟩ : ∃ g, g = w7.heap.size := ⟨_, rfl⟩
    rw [← hg] at X13 ⊢
    replace X11 := hide (X11.out.below ba)
    replace FD := hide (FD.out.below ba)
    replace EF := hide (EF.out.below ba)
    replace EI := hide (RwAt.below EI.out ba)
    replace EO := hide (own_bel EO.out ba)
    replace BR := hide (BR.out.trans (ba.mono BR.out.size))
    clear hw hg ba
    have ne1 : (gc != gc) = false := by simp
    have hcc := And.introS (op9S X11.out) (op9S X13.out)
    refine wp_region_noPanic ?_
    refine wp_region_held_drew (S := (fun w' => w'.cell? ⟨g11, 0, none⟩ = some (.int .i64 aa) ∧ w'.cell? ⟨g11, 1, none⟩ = some (.int .i64 v.e) ∧ w'.cell? ⟨g11, 2, none⟩ = some (.int .i64 v.c) ∧ w'.cell? ⟨g11, 3, none⟩ = some (.int .i64 v.i) ∧ w'.cell? ⟨g11, 4, none⟩ = some (.int .i64 v.p) ∧ w'.cell? ⟨g11, 5, none⟩ = some (.int .i64 v.x) ∧ w'.cell? ⟨g11, 6, none⟩ = some (.slice F1 v.fs.length f1) ∧ w'.cell? ⟨g11, 7, none⟩ = some (.slice F2 v.is.length f2) ∧ w'.cell? ⟨g11, 8, none⟩ = some (.slice F3 l.length f3) ∧ w'.cell? ⟨g13, 0, none⟩ = some (.int .i64 aa) ∧ w'.cell? ⟨g13, 1, none⟩ = some (.int .i64 v.e) ∧ w'.cell? ⟨g13, 2, none⟩ = some (.int .i64 v.c) ∧ w'.cell? ⟨g13, 3, none⟩ = some (.int .i64 v.i) ∧ w'.cell? ⟨g13, 4, none⟩ = some (.int .i64 v.p) ∧ w'.cell? ⟨g13, 5, none⟩ = some (.int .i64 v.x) ∧ w'.cell? ⟨g13, 6, none⟩ = some (.slice E1 v.fs.length e1) ∧ w'.cell? ⟨g13, 7, none⟩ = some (.slice E2 v.is.length e2) ∧ w'.cell? ⟨g13, 8, none⟩ = some (.slice E3 l.length e3))) (by kernel_rfl) ?_ (fun hHeld => ?_)
    · ((try dsimp only) <;> (first | trivial | assumption | go_keep))
    clear hcc
    replace X11 := hide X11.out.drew
    replace X13 := hide X13.out.drew
    replace FD := hide (FD.out.below (Below.refl _ _).drew)
    replace EF := hide (EF.out.below (Below.refl _ _).drew)
    replace EI := hide (RwAt.below EI.out (Below.refl _ _).drew)
    replace EO := hide (own_bel EO.out (Below.refl _ _).drew)
    replace BR := hide BR.out.drew
    generalize w8.drew = v0 at *
    refine tk 0 ?_
    refine tk 1 ?_
    refine tk 2 ?_
    refine tk 3 ?_
    refine tk 4 ?_
    refine tk 6 ?_
    have RF := ref15 v0 aa v F1 F2 F3 f1 f2 l.length f3 l FD.out.b.txs (by have := HBD.out.2.2.2; omega)
    unfold fdC at RF
    refine wpAnyH_ready (rs := [5]) (by kernel_rfl) (by simp) ?_
    refine AllReadyH.cons (by simp only [List.getElem?_toArray, List.getElem?_cons_succ, List.getElem?_cons_zero]; rfl) (fun K hK => ?_) ?_
    rotate_left 1
    · exact AllReadyH.nil
    go_simp
    refine RF.mono ?_; rintro r v1 ⟨A5, c5, rfl, ho, hb⟩; have O5 := hide ho; replace X11 := hide (X11.out.below hb); replace X13 := hide (X13.out.below hb); replace FD := hide (FD.out.below hb); replace EF := hide (EF.out.below hb); replace EI := hide (RwAt.below EI.out hb); replace EO := hide (own_bel EO.out hb); replace BR := hide (BR.out.trans (hb.mono BR.out.size)); have hcc := And.introS (op9S X11.out) (op9S X13.out); clear ho hb
    refine hK.out _ _ ?_ (fun hHeld2 => ?_)
    · ((try dsimp only) <;> (first | trivial | assumption | go_keep))
    clear hHeld
    have hHeld := hHeld2
    clear hHeld2 hK K
    try simp only [Act.put, List.setIfInBounds_toArray, List.set_cons_zero, List.set_cons_succ]
    clear hHeld RF
    have hHeld := hcc
    clear hcc
    have hbd := HBD.out
    have SM := same15 v1 aa aa v v F1 F2 A5 E1 E2 E3 v.fs.length f1 v.is.length f2 l.length c5 v.fs.length e1 v.is.length e2 l.length e3 _ _ _ _ _ _ _ _ _ _ l l FD.out.f EF.out FD.out.i EI.out (by omega) (by omega) (by omega) (by omega) hbd.2.2.1 hbd.2.2.1 (Sl.of_own O5.out) (Sl.of_own EO.out) (Nat.le_refl _) (Nat.le_refl _) (by omega) (by omega)
    rw [decide_eq_true ⟨rfl, rfl, rfl⟩] at SM
    unfold rfC at SM
    clear hbd
    refine wpAnyH_ready (rs := [7]) (by kernel_rfl) (by simp) ?_
    refine AllReadyH.cons (by simp only [List.getElem?_toArray, List.getElem?_cons_succ, List.getElem?_cons_zero]; rfl) (fun K hK => ?_) ?_
    rotate_left 1
    · exact AllReadyH.nil
    go_simp
    refine SM.mono ?_; rintro r v2 ⟨rfl, hb⟩; replace X11 := hide (X11.out.below hb); replace X13 := hide (X13.out.below hb); replace BR := hide (BR.out.trans (hb.mono BR.out.size)); have hcc := And.introS (op9S X11.out) (op9S X13.out); clear hb
    refine hK.out _ _ ?_ (fun hHeld2 => ?_)
    · ((try dsimp only) <;> (first | trivial | assumption | go_keep))
    clear hHeld
    have hHeld := hHeld2
    clear hHeld2 hK K
    try simp only [Act.put, List.setIfInBounds_toArray, List.set_cons_zero, List.set_cons_succ]
    clear hHeld SM
    have hHeld := hcc
    clear hcc
    refine tk 8 ?_
    refine tk 9 ?_
    refine wpAnyH_done (by kernel_rfl) ?_ _
    refine NoPanic.normal ?_
    clear hHeld X11 X13 FD EF EI EO O5 ne1
    go_wp2_with fail
    go_roundw
    case rel => exact ⟨i + 1, by omega, by rw [show ((i + 1 : Nat) : Int) - 1 = j + 1 by have := HJ.out; omega], BR.out⟩
    case measure => have := HJ.out; simp [intOf]; omega
