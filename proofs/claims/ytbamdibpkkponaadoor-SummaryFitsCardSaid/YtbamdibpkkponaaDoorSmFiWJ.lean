import Derived.Test.YtbamdibpkkponaaDoorJb15
set_option linter.unusedVariables false
set_option linter.unusedSimpArgs false
/- The walk of SummaryFits (printed by gen_smfits.py). -/
namespace Go.Proofs.YtbamdibpkkponaaDoor
open Go.RowKit
attribute [local go_sem ↓] Go.wp_at_zero Go.wp_at_succ

def fitI (n : Nat) : List Int := (List.range n).map fun (i : Nat) => ((i : Nat) : Int) + 1
def fitL (n : Nat) : List Int := (List.range n).map fun (i : Nat) => ((i : Nat) : Int)
theorem fitI_succ (n : Nat) : fitI (n + 1) = fitI n ++ [(n : Int) + 1] := by simp [fitI, List.range_succ]
theorem fitL_succ (n : Nat) : fitL (n + 1) = fitL n ++ [(n : Int)] := by simp [fitL, List.range_succ]
theorem fitI_len (n : Nat) : (fitI n).length = n := by simp [fitI]
theorem fitL_len (n : Nat) : (fitL n).length = n := by simp [fitL]
def fitF (L : Nat) : List FI := if L = 0 then [] else [⟨3, 0, fitL L⟩]
theorem fit_good (N L : Nat) (hN : N < 90) (hL : L ≤ 30) : gdP 0 0 0 1 0 (fitF L) (fitI N) := by
  refine ⟨by decide, fun f hf => ?_, fun n hn => ?_⟩
  · unfold fitF at hf
    split at hf
    · cases hf
    · rw [List.mem_singleton] at hf
      subst hf
      refine ⟨by constructor <;> dsimp only <;> omega, by constructor <;> dsimp only <;> omega, ⟨by rw [fitL_len]; omega, by rw [fitL_len]; omega⟩, ?_⟩
      cases h : (fitL L).any badN with
      | false => rfl
      | true =>
        obtain ⟨x, hx, hb⟩ := List.any_eq_true.1 h
        simp only [fitL, List.mem_map, List.mem_range] at hx
        obtain ⟨i, hi, rfl⟩ := hx
        unfold badN findP at hb
        rw [if_pos (by omega), if_pos (by omega)] at hb
        cases hb
  · simp only [fitI, List.mem_map, List.mem_range] at hn
    obtain ⟨i, hi, rfl⟩ := hn
    omega
theorem fit_bad (N L : Nat) (hL : 30 < L) : ¬ gdP 0 0 0 1 0 (fitF L) (fitI N) := fun h => by
  have h1 := h.2.1 ⟨3, 0, fitL L⟩ (by unfold fitF; rw [if_neg (by omega)]; exact List.mem_singleton.2 rfl)
  have h2 := h1.2.2.1.2
  rw [fitL_len] at h2
  omega
theorem fit_sz (N L : Nat) : szN (fitF L) (fitI N) = 10 + N + (if L = 0 then 0 else 4 + 2 * L) ∧ lsN (fitF L) = L := by
  unfold szN fitF
  by_cases h : L = 0
  · rw [if_pos h, if_pos h, fitI_len]; simp [lsN, sumN]; omega
  · rw [if_neg h, if_neg h, fitI_len]; simp [lsN, sumN, fitL_len]
theorem rw_of_blk {w : World} {g lo base n k : Nat} {t : TypeId} {xs : List Value} (h : Blk w g t xs.toArray) (hlo : lo ≤ g) (hl : xs.length = n * k) : RwAt lo base t k w (some ⟨g, 0, none⟩) n xs :=
  ⟨hl, fun j u hu => ⟨g, 0, rfl, ⟨hlo, h.lt, .inr ⟨_, h⟩⟩, by rw [Nat.zero_add, h.cell]; simpa using hu⟩⟩
set_option maxRecDepth 100000 in
set_option maxHeartbeats 4000000 in
theorem fits_all (a b : Int) (ha : -9223372036854775808 ≤ a ∧ a ≤ 9223372036854775807) (hb : -9223372036854775808 ≤ b ∧ b ≤ 9223372036854775807) (w : World) (sp : SpanAt w) :
    Calls Tryd.prog 7 #[.int .i64 a, .int .i64 b] w fun r w' => r = .returned (.bool true) ∧ Below w.heap.size w w' := by
  have SP := hide sp
  obtain ⟨N, hN⟩ : ∃ N : Nat, (N : Int) = (IntKind.u64.wrap a) % 90 := ⟨((IntKind.u64.wrap a) % 90).toNat, by omega⟩
  obtain ⟨L, hL⟩ : ∃ N : Nat, (N : Int) = (IntKind.u64.wrap b) % 33 := ⟨((IntKind.u64.wrap b) % 33).toNat, by omega⟩
  have hN90 : N < 90 := by omega
  have hL33 : L < 33 := by omega
  have hua : 0 ≤ IntKind.u64.wrap a := by simp [IntKind.wrap, IntKind.bits, IntKind.signed]; omega
  have hub : 0 ≤ IntKind.u64.wrap b := by simp [IntKind.wrap, IntKind.bits, IntKind.signed]; omega
  have ta : (IntKind.u64.wrap a).tmod 90 = (N : Int) := by rw [Int.tmod_eq_emod_of_nonneg hua, hN]
  have tb : (IntKind.u64.wrap b).tmod 33 = (L : Int) := by rw [Int.tmod_eq_emod_of_nonneg hub, hL]
  clear sp hN hL hua hub
  go_enter Tryd.func7, Tryd.ntmps7
  go_wp2_with fail
  refine (awake_any w SP.out).mono ?_
  rintro r w1 ⟨rfl, hb⟩
  have B1 := hide hb
  clear hb
  go_upto_region 4 with fail
  try rw [ta]
  try rw [tb]
  try rw [IntWalk.wrap64_in (N : Int) (by omega)]
  try rw [IntWalk.wrap64_in (L : Int) (by omega)]
  generalize IntKind.u64.wrap a = ua
  generalize IntKind.u64.wrap b = ub
  clear ta tb
  go_upto_region 5 with fail
  obtain ⟨w2, hw⟩ : ∃ W, W = w1.alloc (.cells #[.int .i64 0, .int .i64 0, .int .i64 0, .int .i64 1, .int .i64 0, .slice none 0 0, .slice none 0 0] 25) := ⟨_, rfl⟩
  have KP : Hid (Blk w2 w1.heap.size 25 #[.int .i64 0, .int .i64 0, .int .i64 0, .int .i64 1, .int .i64 0, .slice none 0 0, .slice none 0 0]) := hide (by rw [hw]; exact Blk.new _ _ _)
  have ba := (show Below w1.heap.size w1 w2 by rw [hw]; exact (Below.refl _ _).alloc (Nat.le_refl _) _)
  rw [← hw]
  have B2 := hide (B1.out.trans (ba.mono B1.out.size))
  obtain ⟨gP, hg⟩ : ∃ g, g = w1.heap.size := ⟨_, rfl⟩
  have LP := hide (show w.heap.size ≤ gP ∧ gP < w2.heap.size from ⟨by rw [hg]; exact B1.out.size, by rw [hw, hg]; simp⟩)
  rw [← hg] at KP ⊢
  clear hw ba hg B1
  go_wp2_with fail
  go_loopw [6] (fun y wr => ∃ (q d : Nat) (A : Option Addr), q ≤ N ∧ y = .int .i64 (q : Int) ∧ Blk wr gP 25 #[.int .i64 0, .int .i64 0, .int .i64 0, .int .i64 1, .int .i64 0, .slice none 0 0, .slice A q d] ∧ wr.ownsRow w2.heap.size 3 1 (.slice A q d) q (intC (fitI q)) ∧ Kp [gP] w2 wr) (fun y _ => N - (intOf y).toNat)
  case atStart => exact ⟨0, 0, none, by omega, rfl, KP.out, World.ownsRow_nil _ _ _ _, Kp.refl _ _⟩
  case round =>
    clear KP
    obtain ⟨q, d, A, hq, rfl, hX, ho, hk⟩ := hrel
    have XF := hide hX
    have OW := hide ho
    have KK := hide hk
    clear hX ho hk
    by_cases hlq : q < N
    · have hqs : (q : Int) < (N : Int) := by omega
      have hq64 : IntKind.i64.wrap (q : Int) = (q : Int) := by rw [IntKind.wrap_i64]; omega
      have hq1 : IntKind.i64.wrap ((q : Int) + 1) = (q : Int) + 1 := by rw [IntKind.wrap_i64]; omega
      have b19 := hide ((Below.refl wr.heap.size wr).alloc (Nat.le_refl _) (.cells #[.int .i64 ((q : Int) + 1)] 3))
      have X91 := hide (XF.out.below b19.out)
      have O91 := hide (own_bel OW.out b19.out)
      have K91 := hide (KK.out.trans (Kp.of_below b19.out))
      have z6 := XF.out.cell 6
      simp only [List.getElem?_toArray, List.getElem?_cons_succ, List.getElem?_cons_zero] at z6
      go_wp2_with (
        at_builtin
        refine wpList_app _ rfl (.tmp 28) (.tmp 31) _ rfl etyJ w2.heap.size (.slice A q d) q _ rfl O91.out (wr.heap.size + 1) (some ⟨wr.heap.size, 0, none⟩) 1 1 (intC [(q : Int) + 1]) rfl (etyJ1 wr _) (intC_one _) (by omega) K91.out.size ?_
        intro A9 k9 w9 hown hg _
        have X10 := hide (blk_grT X91.out O91.out (by decide) hg)
        have K10 := hide (Kp.gr8 K91.out hg (fun k hk => (O91.out.lt k hk).1))
        have O10 := hide hown
        clear hown hg
        have z6' := X10.out.cell 6
        have f6' := X10.out.frozen 6
        simp only [List.getElem?_toArray, List.getElem?_cons_succ, List.getElem?_cons_zero] at z6')
      have hkP : Kp [gP] w9 (w9.setCell ⟨gP, 6, none⟩ (.slice A9 (q + 1) k9)) := (Kp.refl _ _).set (p := ⟨gP, 6, none⟩) (.inl (by simp)) _
      go_roundw
      case rel =>
        refine ⟨q + 1, k9, A9, by omega, by go_num, by simpa [List.setIfInBounds_toArray] using X10.out.set 6 (.slice A9 (q + 1) k9), ?_, K10.out.trans hkP⟩
        have h1 := own_kq O10.out hkP (fun g hg => by have h1 := (O10.out.lt g hg).1; have h2 := LP.out; simp only [List.mem_singleton]; omega)
        rw [intC_apps, ← fitI_succ] at h1
        exact h1
      case measure => simp [intOf]; omega
    · have hqN : q = N := by omega
      subst hqN
      have hqs : ¬ (q : Int) < (q : Int) := by omega
      obtain ⟨wf, hwf⟩ : ∃ W, W = wr := ⟨_, rfl⟩
      subst hwf
      have BF := hide (B2.out.trans (KK.out.below (Nat.le_trans LP.out.1 (Nat.le_of_lt LP.out.2)) (by intro g hg; have := LP.out; simp only [List.mem_singleton] at hg; omega)))
      have LF := hide (show gP < wf.heap.size ∧ w2.heap.size ≤ wf.heap.size from ⟨Nat.lt_of_lt_of_le LP.out.2 KK.out.size, KK.out.size⟩)
      have HSZ := hide (fit_sz q L)
      have HCK1 := hide (show ∀ z, checkP 0 0 0 1 0 (fitF L) (fitI q) = z → checkP 0 0 0 1 0 (fitF L) (fitI q) = z from fun z h => h)
      clear hlq hq
      by_cases hL0 : L = 0
      · have FIS := hide (show FisAt 0 0 wf none 0 (fitF L) by unfold fitF; rw [if_pos hL0]; exact FisAt.nil)
        have INTS := hide (show IntsAt w2.heap.size w2.heap.size wf A q (fitI q) from RwAt.of_own OW.out)
        have HL0 := hide hL0
        have hLi : ¬ (0 : Int) < (L : Int) := by omega
        clear hL0
        have H64 : ∀ f ∈ fitF L, ∀ x ∈ f.ls, I64 x := fun f hf x hx => by
          unfold fitF at hf
          split at hf
          · cases hf
          · rw [List.mem_singleton] at hf
            subst hf
            simp only [fitL, List.mem_map, List.mem_range] at hx
            obtain ⟨i, hi, rfl⟩ := hx
            unfold I64
            omega
        have CKK := hide (check_any 0 0 0 1 0 none A 0 0 q d _ _ _ _ (fitF L) (fitI q) wf (SP.out.bel BF.out) FIS.out INTS.out (by omega) (by omega) (by have := HSZ.out.2; omega) H64)
        have y0 := XF.out.cell 0
        have y1 := XF.out.cell 1
        have y2 := XF.out.cell 2
        have y3 := XF.out.cell 3
        have y4 := XF.out.cell 4
        have y5 := XF.out.cell 5
        have y6 := XF.out.cell 6
        simp only [List.getElem?_toArray, List.getElem?_cons_succ, List.getElem?_cons_zero] at y0 y1 y2 y3 y4 y5 y6
        have s64 : IntKind.i64.wrap (10 + (q : Int)) = 10 + (q : Int) := by rw [IntKind.wrap_i64]; omega

        go_wp2_with fail
        clear y0 y1 y2 y3 y4 y5 y6
        refine CKK.out.mono ?_
        rintro r w8 ⟨rfl, hb⟩
        replace FIS := hide (FIS.out.below hb)
        replace XF := hide (XF.out.below hb)
        replace BF := hide (BF.out.trans (hb.mono BF.out.size))
        clear hb CKK
        by_cases h30 : 30 < L
        · have h30i : 30 < (L : Int) := by omega
          rw [show checkP 0 0 0 1 0 (fitF L) (fitI q) = 22 from if_neg (fit_bad q L h30)]
          clear h30
          go_wp2_with fail
          go_ret
          exact ⟨rfl, BF.out⟩
        have h30i : ¬ 30 < (L : Int) := by omega
        have hgd := fit_good q L hN90 (by omega)
        by_cases h88 : 88 < szN (fitF L) (fitI q)
        · rw [show checkP 0 0 0 1 0 (fitF L) (fitI q) = 27 by unfold checkP; rw [if_pos hgd, if_pos h88]]
          rw [HSZ.out.1, if_pos HL0.out] at h88
          clear h30 hgd
          go_wp2_with fail
          go_ret
          exact ⟨rfl, BF.out⟩
        rw [show checkP 0 0 0 1 0 (fitF L) (fitI q) = 0 by unfold checkP; rw [if_pos hgd, if_neg h88]]
        rw [HSZ.out.1, if_pos HL0.out] at h88
        clear h30 hgd
        have y0 := XF.out.cell 0
        have y1 := XF.out.cell 1
        have y2 := XF.out.cell 2
        have y3 := XF.out.cell 3
        have y4 := XF.out.cell 4
        have y5 := XF.out.cell 5
        have y6 := XF.out.cell 6
        simp only [List.getElem?_toArray, List.getElem?_cons_succ, List.getElem?_cons_zero] at y0 y1 y2 y3 y4 y5 y6
        go_wp2_with fail
        clear y0 y1 y2 y3 y4 y5 y6
        refine (size_any 0 0 0 1 0 none A 0 0 q d _ _ (fitF L) w8 FIS.out (by omega) (by omega) (by have := HSZ.out.2; omega)).mono ?_
        rintro r w9 ⟨rfl, hb⟩
        replace FIS := hide (FIS.out.below hb)
        replace XF := hide (XF.out.below hb)
        replace BF := hide (BF.out.trans (hb.mono BF.out.size))
        clear hb
        rw [HSZ.out.2]
        rw [HL0.out]
        have y0 := XF.out.cell 0
        have y1 := XF.out.cell 1
        have y2 := XF.out.cell 2
        have y3 := XF.out.cell 3
        have y4 := XF.out.cell 4
        have y5 := XF.out.cell 5
        have y6 := XF.out.cell 6
        simp only [List.getElem?_toArray, List.getElem?_cons_succ, List.getElem?_cons_zero] at y0 y1 y2 y3 y4 y5 y6
        go_wp2_with fail
        clear y0 y1 y2 y3 y4 y5 y6
        refine (sblocks_any 0 0 0 1 0 none A 0 0 q d _ _ (fitF L) w9 FIS.out (by omega) (by omega) (by have := HSZ.out.2; omega)).mono ?_
        rintro r w10 ⟨rfl, hb⟩
        replace BF := hide (BF.out.trans (hb.mono BF.out.size))
        clear hb
        rw [HSZ.out.2]
        rw [HL0.out]
        go_wp2_with fail
        go_ret
        refine ⟨?_, BF.out⟩
        first
        | rfl
        | exact congrArg (fun b => Ending.returned (Value.bool b)) (beq_iff_eq.2 (by omega))
      · have hL0i : (0 : Int) < (L : Int) := by omega
        have HLF := hide (show fitF L = [⟨3, 0, fitL L⟩] from if_neg hL0)
        have HL0 := hide hL0
        have lf := fun w xs h => one_slice etyF w xs h (by decide)
        clear hL0
        go_upto_region 11 with fail
        obtain ⟨w3, hw⟩ : ∃ W, W = wf.alloc (.cells #[.int .i64 3, .int .i64 0, .slice none 0 0] 46) := ⟨_, rfl⟩
        have FF : Hid (Blk w3 wf.heap.size 46 #[.int .i64 3, .int .i64 0, .slice none 0 0]) := hide (by rw [hw]; exact Blk.new _ _ _)
        have ba := (show Below wf.heap.size wf w3 by rw [hw]; exact (Below.refl _ _).alloc (Nat.le_refl _) _)
        rw [← hw]
        obtain ⟨gF, hg⟩ : ∃ g, g = wf.heap.size := ⟨_, rfl⟩
        have LG := hide (show gP < gF ∧ gF < w3.heap.size ∧ w2.heap.size ≤ gF from ⟨by rw [hg]; exact LF.out.1, by rw [hg, hw]; simp, by rw [hg]; exact LF.out.2⟩)
        rw [← hg] at FF ⊢
        replace XF := hide (XF.out.below ba)
        replace OW := hide (own_bel OW.out ba)
        replace BF := hide (BF.out.trans (ba.mono BF.out.size))
        clear hw ba hg
        go_wp2_with fail
        go_loopw [8] (fun y wr => ∃ (p d2 : Nat) (A2 : Option Addr), p ≤ L ∧ y = .int .i64 (p : Int) ∧ Blk wr gF 46 #[.int .i64 3, .int .i64 0, .slice A2 p d2] ∧ wr.ownsRow w3.heap.size 3 1 (.slice A2 p d2) p (intC (fitL p)) ∧ Kp [gF] w3 wr) (fun y _ => L - (intOf y).toNat)
        case atStart => exact ⟨0, 0, none, by omega, rfl, FF.out, World.ownsRow_nil _ _ _ _, Kp.refl _ _⟩
        case round =>
          have FFX := FF
          clear FF
          obtain ⟨p, d2, A2, hp, rfl, hX, ho, hk⟩ := hrel
          have FF := hide hX
          have OF := hide ho
          have KF := hide hk
          clear hX ho hk
          have z2 := FF.out.cell 2
          simp only [List.getElem?_toArray, List.getElem?_cons_succ, List.getElem?_cons_zero] at z2
          by_cases hlp : p < L
          · have hps : (p : Int) < (L : Int) := by omega
            have hp64 : IntKind.i64.wrap (p : Int) = (p : Int) := by rw [IntKind.wrap_i64]; omega
            have b19 := hide ((Below.refl wr.heap.size wr).alloc (Nat.le_refl _) (.cells #[.int .i64 (p : Int)] 3))
            have X91 := hide (FF.out.below b19.out)
            have O91 := hide (own_bel OF.out b19.out)
            have K91 := hide (KF.out.trans (Kp.of_below b19.out))
            go_wp2_with (
              at_builtin
              refine wpList_app _ rfl (.tmp 43) (.tmp 45) _ rfl etyJ w3.heap.size (.slice A2 p d2) p _ rfl O91.out (wr.heap.size + 1) (some ⟨wr.heap.size, 0, none⟩) 1 1 (intC [(p : Int)]) rfl (etyJ1 wr _) (intC_one _) (by omega) K91.out.size ?_
              intro A9 k9 w9 hown hg _
              have X10 := hide (blk_grT X91.out O91.out (by decide) hg)
              have K10 := hide (Kp.gr8 K91.out hg (fun k hk => (O91.out.lt k hk).1))
              have O10 := hide hown
              clear hown hg
              have z6' := X10.out.cell 2
              have f6' := X10.out.frozen 2
              simp only [List.getElem?_toArray, List.getElem?_cons_succ, List.getElem?_cons_zero] at z6')
            have hkP : Kp [gF] w9 (w9.setCell ⟨gF, 2, none⟩ (.slice A9 (p + 1) k9)) := (Kp.refl _ _).set (p := ⟨gF, 2, none⟩) (.inl (by simp)) _
            go_roundw
            case rel =>
              refine ⟨p + 1, k9, A9, by omega, by go_num, by simpa [List.setIfInBounds_toArray] using X10.out.set 2 (.slice A9 (p + 1) k9), ?_, K10.out.trans hkP⟩
              have h1 := own_kq O10.out hkP (fun g hg => by have h1 := (O10.out.lt g hg).1; have h2 := LG.out; simp only [List.mem_singleton]; omega)
              rw [intC_apps, ← fitL_succ] at h1
              exact h1
            case measure => simp [intOf]; omega
          · have hpL : p = L := by omega
            subst hpL
            have hps : ¬ (p : Int) < (p : Int) := by omega
            have z0 := FF.out.cell 0
            have z1 := FF.out.cell 1
            simp only [List.getElem?_toArray, List.getElem?_cons_succ, List.getElem?_cons_zero] at z0 z1
            have b19 := hide ((Below.refl wr.heap.size wr).alloc (Nat.le_refl _) (.cells #[.int .i64 3, .int .i64 0, .slice A2 p d2] 46))
            have XW := hide (XF.out.kp KF.out (by have := LG.out; simp only [List.mem_singleton]; omega))
            have XW1 := hide (XW.out.below b19.out)
            have y5' := XW1.out.cell 5
            have f5' := XW1.out.frozen 5
            simp only [List.getElem?_toArray, List.getElem?_cons_succ, List.getElem?_cons_zero] at y5'
            clear hlp hp
            go_upto_region 16 with fail
            clear z0 z1 z2 y5' f5' lf
            obtain ⟨wg, hw⟩ : ∃ W, W = (wr.alloc (.cells #[.int .i64 3, .int .i64 0, .slice A2 p d2] 46)).setCell ⟨gP, 5, none⟩ (.slice (some ⟨wr.heap.size, 0, none⟩) 1 1) := ⟨_, rfl⟩
            have hkP : Kp [gP] (wr.alloc (.cells #[.int .i64 3, .int .i64 0, .slice A2 p d2] 46)) wg := by rw [hw]; exact (Kp.refl _ _).set (p := ⟨gP, 5, none⟩) (.inl (by simp)) _
            have XG : Hid (Blk wg gP 25 #[.int .i64 0, .int .i64 0, .int .i64 0, .int .i64 1, .int .i64 0, .slice (some ⟨wr.heap.size, 0, none⟩) 1 1, .slice A q d]) := hide (by rw [hw]; simpa [List.setIfInBounds_toArray] using XW1.out.set 5 (.slice (some ⟨wr.heap.size, 0, none⟩) 1 1))
            rw [← hw]
            have LW := hide (show gP < wr.heap.size ∧ w3.heap.size ≤ wr.heap.size from ⟨by have := LG.out; have := KF.out.size; omega, KF.out.size⟩)
            have FB := hide ((Blk.new wr 46 #[.int .i64 3, .int .i64 0, .slice A2 p d2]).kp hkP (by have := LW.out; simp only [List.mem_singleton]; omega))
            have OG := hide (own_kq (own_bel OF.out b19.out) hkP (fun g hg => by have h1 := (OF.out.lt g hg).1; have h2 := LG.out; simp only [List.mem_singleton]; omega))
            have hOQ := own_kq OW.out KF.out (fun g hg => by have h1 := (OW.out.lt g hg).2; have h3 := (own_blkT OW.out hg).2; obtain ⟨cs', hB⟩ := h3; simp only [List.mem_singleton]; rintro rfl; exact absurd (Blk.type FFX.out hB).1 (by decide))
            have OQ := hide (own_kq (own_bel hOQ b19.out) hkP (fun g hg => by have h1 := (OW.out.lt g hg).1; have h2 := LP.out; simp only [List.mem_singleton]; omega))
            have BG := hide ((BF.out.trans (KF.out.below (by have := LG.out; have := LP.out; omega) (by intro g hg; have := LG.out; have := LP.out; simp only [List.mem_singleton] at hg; omega))).trans ((b19.out.mono (by have := LW.out; have := LP.out; omega)).trans (hkP.below (by have := LW.out; have := LP.out; simp; omega) (by intro g hg; have := LP.out; simp only [List.mem_singleton] at hg; omega))))
            clear hw hkP XW XW1 b19 XF BF
            have XF := XG
            have BF := BG
            have FIS := hide (show FisAt 0 0 wg (some ⟨wr.heap.size, 0, none⟩) 1 (fitF p) by
              rw [HLF.out]
              refine ⟨[[.int .i64 3, .int .i64 0, .slice A2 p d2]], rfl, rfl, rw_of_blk FB.out (Nat.zero_le _) rfl, fun j x f hx hf => ?_⟩
              cases j with
              | zero =>
                simp only [List.getElem?_cons_zero, Option.some.injEq] at hx hf
                subst hx hf
                refine ⟨A2, d2, ?_, ?_⟩
                · unfold fiV
                  dsimp only
                  rw [fitL_len]
                · dsimp only
                  rw [fitL_len]
                  exact RwAt.lo_ (RwAt.of_own OG.out) (Nat.zero_le _)
              | succ j => simp at hx)
            have INTS := hide (show IntsAt w2.heap.size w2.heap.size wg A q (fitI q) from RwAt.of_own OQ.out)
            generalize (some (⟨wr.heap.size, 0, none⟩ : Addr)) = FA at *
            have H64 : ∀ f ∈ fitF p, ∀ x ∈ f.ls, I64 x := fun f hf x hx => by
              unfold fitF at hf
              split at hf
              · cases hf
              · rw [List.mem_singleton] at hf
                subst hf
                simp only [fitL, List.mem_map, List.mem_range] at hx
                obtain ⟨i, hi, rfl⟩ := hx
                unfold I64
                omega
            have CKK := hide (check_any 0 0 0 1 0 FA A 1 1 q d _ _ _ _ (fitF p) (fitI q) wg (SP.out.bel BF.out) FIS.out INTS.out (by omega) (by omega) (by have := HSZ.out.2; omega) H64)
            have y0 := XF.out.cell 0
            have y1 := XF.out.cell 1
            have y2 := XF.out.cell 2
            have y3 := XF.out.cell 3
            have y4 := XF.out.cell 4
            have y5 := XF.out.cell 5
            have y6 := XF.out.cell 6
            simp only [List.getElem?_toArray, List.getElem?_cons_succ, List.getElem?_cons_zero] at y0 y1 y2 y3 y4 y5 y6
            have s64 : IntKind.i64.wrap (10 + (q : Int)) = 10 + (q : Int) := by rw [IntKind.wrap_i64]; omega
            have t64 : IntKind.i64.wrap (2 * (p : Int)) = 2 * (p : Int) := by rw [IntKind.wrap_i64]; omega
            have t65 : IntKind.i64.wrap (4 + 2 * (p : Int)) = 4 + 2 * (p : Int) := by rw [IntKind.wrap_i64]; omega
            have t66 : IntKind.i64.wrap (10 + (q : Int) + (4 + 2 * (p : Int))) = 10 + (q : Int) + (4 + 2 * (p : Int)) := by rw [IntKind.wrap_i64]; omega
            go_wp2_with fail
            clear y0 y1 y2 y3 y4 y5 y6
            refine CKK.out.mono ?_
            rintro r w8 ⟨rfl, hb⟩
            replace FIS := hide (FIS.out.below hb)
            replace XF := hide (XF.out.below hb)
            replace BF := hide (BF.out.trans (hb.mono BF.out.size))
            clear hb CKK
            by_cases h30 : 30 < p
            · have h30i : 30 < (p : Int) := by omega
              rw [show checkP 0 0 0 1 0 (fitF p) (fitI q) = 22 from if_neg (fit_bad q p h30)]
              clear h30
              go_wp2_with fail
              go_ret
              exact ⟨rfl, BF.out⟩
            have h30i : ¬ 30 < (p : Int) := by omega
            have hgd := fit_good q p hN90 (by omega)
            by_cases h88 : 88 < szN (fitF p) (fitI q)
            · rw [show checkP 0 0 0 1 0 (fitF p) (fitI q) = 27 by unfold checkP; rw [if_pos hgd, if_pos h88]]
              rw [HSZ.out.1, if_neg HL0.out] at h88
              clear h30 hgd
              go_wp2_with fail
              go_ret
              exact ⟨rfl, BF.out⟩
            rw [show checkP 0 0 0 1 0 (fitF p) (fitI q) = 0 by unfold checkP; rw [if_pos hgd, if_neg h88]]
            rw [HSZ.out.1, if_neg HL0.out] at h88
            clear h30 hgd
            have y0 := XF.out.cell 0
            have y1 := XF.out.cell 1
            have y2 := XF.out.cell 2
            have y3 := XF.out.cell 3
            have y4 := XF.out.cell 4
            have y5 := XF.out.cell 5
            have y6 := XF.out.cell 6
            simp only [List.getElem?_toArray, List.getElem?_cons_succ, List.getElem?_cons_zero] at y0 y1 y2 y3 y4 y5 y6
            go_wp2_with fail
            clear y0 y1 y2 y3 y4 y5 y6
            refine (size_any 0 0 0 1 0 FA A 1 1 q d _ _ (fitF p) w8 FIS.out (by omega) (by omega) (by have := HSZ.out.2; omega)).mono ?_
            rintro r w9 ⟨rfl, hb⟩
            replace FIS := hide (FIS.out.below hb)
            replace XF := hide (XF.out.below hb)
            replace BF := hide (BF.out.trans (hb.mono BF.out.size))
            clear hb
            rw [HSZ.out.2]
            have y0 := XF.out.cell 0
            have y1 := XF.out.cell 1
            have y2 := XF.out.cell 2
            have y3 := XF.out.cell 3
            have y4 := XF.out.cell 4
            have y5 := XF.out.cell 5
            have y6 := XF.out.cell 6
            simp only [List.getElem?_toArray, List.getElem?_cons_succ, List.getElem?_cons_zero] at y0 y1 y2 y3 y4 y5 y6
            go_wp2_with fail
            clear y0 y1 y2 y3 y4 y5 y6
            refine (sblocks_any 0 0 0 1 0 FA A 1 1 q d _ _ (fitF p) w9 FIS.out (by omega) (by omega) (by have := HSZ.out.2; omega)).mono ?_
            rintro r w10 ⟨rfl, hb⟩
            replace BF := hide (BF.out.trans (hb.mono BF.out.size))
            clear hb
            rw [HSZ.out.2]

            go_wp2_with fail
            go_ret
            refine ⟨?_, BF.out⟩
            first
            | rfl
            | exact congrArg (fun b => Ending.returned (Value.bool b)) (beq_iff_eq.2 (by omega))
end Go.Proofs.YtbamdibpkkponaaDoor
