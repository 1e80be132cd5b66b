import Derived.Test.YtbamdibpkkponaaDoorJb15
set_option linter.unusedVariables false
set_option linter.unusedSimpArgs false
/- The walk of SummaryReads. -/
namespace Go.Proofs.YtbamdibpkkponaaDoor
open Go.RowKit
attribute [local go_sem ↓] Go.wp_at_zero Go.wp_at_succ

theorem u8_slice0 (w : World) : (Instr.buildSlice 30 0 #[]).run Tryd.prog w = .ok (.slice (some ⟨w.heap.size, 0, none⟩) 0 0) (w.alloc (.cells #[] 5)) := by
  have hz : (Tryd.prog.info? 5).map (fun i => (i.zero, i.size, i.bytes)) = some (some (.int .u8 0), 1, 1) := by kernel_rfl
  obtain ⟨ie, hi, h1, h2, h3⟩ := info_parts hz
  simp [Instr.buildSlice, run_underlying Tryd.underlying30, sizeOf, typeInfo, hi, h2, Instr.fill, newRow]
  congr 2
  exact Array.eq_empty_of_size_eq_zero (by simp)
theorem conv_at {w : World} {A : Option Addr} {n c B : Nat} {l : List UInt8} (h : By w B A n l) : (convert 30 9 (.slice A n c)).run Tryd.prog w = .ok (.string (txt l)) w :=
  run_conv_txt w Tryd.underlying30 Tryd.underlying5 Tryd.underlying9 c h
set_option maxRecDepth 100000 in
set_option maxHeartbeats 4000000 in
theorem reads_all (A : Option Addr) (n c : Nat) (l : List UInt8) (w : World) (sp : SpanAt w) (h : ByT 0 w.heap.size w A n l) (hc : n ≤ c) (hcm : c ≤ 9223372036854775807) :
    Calls Tryd.prog 4 #[.slice A n c] w fun r w' => r = .returned (.bool true) ∧ Below w.heap.size w w' := by
  have H := hide h
  have SP := hide sp
  have HC := hide (And.intro hc hcm)
  have hn63 : n ≤ 9223372036854775807 := by omega
  clear h sp hc hcm
  go_enter Tryd.func4, Tryd.ntmps4
  go_wp2_with fail
  refine (awake_any w SP.out).mono ?_
  rintro r w1 ⟨rfl, hb⟩
  have B1 := hide hb
  clear hb
  by_cases hbig : 1000 < (n : Int)
  · go_wp2_with fail
    refine (awake_any w1 (SP.out.bel B1.out)).mono ?_
    rintro r w2 ⟨rfl, hb⟩
    have B2 := hide (B1.out.trans (hb.mono B1.out.size))
    clear hb
    go_wp2_with fail
    go_ret
    exact ⟨rfl, B2.out⟩
  have hn1000 : n ≤ 1000 := by omega
  have u0 := fun w => u8_slice0 w
  have BY1 := hide (RwAt.sl (RwAt.below H.out B1.out))
  have b1 := hide ((Below.refl w1.heap.size w1).alloc (Nat.le_refl _) (.cells #[] 5))
  go_upto_region 4 with (
    at_builtin
    refine wpList_appB (xs := []) (w0 := w1) (.tmp 20) (.tmp 21) (own_nw (Nat.le_refl _)) (Sl.below BY1.out b1.out) b1.out rfl rfl rfl rfl (by omega) b1.out.size ?_
    intro A2 k2 w2 O2 B2)
  clear u0 b1 hbig
  simp only [Nat.zero_add, List.nil_append] at O2 ⊢
  obtain ⟨L2, hL2⟩ : ∃ x, x = w1.heap.size := ⟨_, rfl⟩
  have BW2 := hide (B1.out.trans (B2.out.mono B1.out.size))
  have CK := hide (show n ≤ k2 ∧ k2 ≤ 9223372036854775807 by
    obtain ⟨_, _, e, h1, h2⟩ := own_form O2.out
    injection e with e1 e2 e3
    subst e3
    exact ⟨h1, h2⟩)
  go_wp2_with fail
  refine (dec_any A2 n k2 w2.heap.size l w2 (RwAt.lo_ (RwAt.of_own O2.out) (Nat.zero_le _)) (Nat.le_refl _) CK.out.1 CK.out.2 (SP.out.bel BW2.out)).mono ?_
  rintro r w3 ⟨hd, hb⟩
  have BW3 := hide (BW2.out.trans (hb.mono BW2.out.size))
  have O3 := hide (own_bel O2.out hb)
  clear hb O2
  by_cases hE : ∃ v s, IsEnc l v s
  · obtain ⟨v, s, hE⟩ := hE
    have HE := hide hE
    obtain ⟨P1, p1, P2, p2, cs1, rfl, hO1, hI1⟩ := hd.of_enc hE
    have OR3 := hide hO1
    have OI3 := hide hI1
    obtain ⟨bd1, bd2, bd3, bd4⟩ := PV.bd hE.1
    have HB4 := hide (And.intro (lsN_all (Nat.le_trans bd3 (show 39 ≤ 1000000 by decide))) bd4)
    clear hd hO1 hI1 hE bd4
    have FS1 := hide OR3.out.fis
    have IS1 := hide (RwAt.of_own (base := w2.heap.size) OI3.out)
    -- TAIL
    unfold partC
    go_upto_region 5 with fail
    obtain ⟨w4, hw⟩ : ∃ W, W = w3.alloc (.cells #[.int .i64 v.e, .int .i64 v.c, .int .i64 v.i, .int .i64 v.p, .int .i64 v.x, .slice P1 v.fs.length p1, .slice P2 v.is.length p2] 25) := ⟨_, rfl⟩
    have X4 : Hid (Blk w4 w3.heap.size 25 #[.int .i64 v.e, .int .i64 v.c, .int .i64 v.i, .int .i64 v.p, .int .i64 v.x, .slice P1 v.fs.length p1, .slice P2 v.is.length p2]) := hide (by rw [hw]; exact Blk.new _ _ _)
    have ba := (show Below w3.heap.size w3 w4 by rw [hw]; exact (Below.refl _ _).alloc (Nat.le_refl _) _)
    rw [← hw]
    obtain ⟨g4, hg⟩ : ∃ g, g = w3.heap.size := ⟨_, rfl⟩
    rw [← hg] at X4 ⊢
    replace OR3 := hide (OR3.out.kp (Kp.of_below (gs := []) ba) (by simp))
    replace OI3 := hide (own_bel OI3.out ba)
    replace BW3 := hide (BW3.out.trans (ba.mono BW3.out.size))
    replace O3 := hide (own_bel O3.out ba)
    clear hw ba hg
    go_wp2_with fail
    refine (rdec_any A n c w.heap.size l w4 (RwAt.below H.out BW3.out) BW3.out.size HC.out.1 HC.out.2).mono ?_
    rintro r w5 ⟨hd, hb⟩
    replace OR3 := hide (OR3.out.kp (Kp.of_below (gs := []) hb) (by simp))
    replace OI3 := hide (own_bel OI3.out hb)
    replace BW3 := hide (BW3.out.trans (hb.mono BW3.out.size))
    replace O3 := hide (own_bel O3.out hb)
    replace X4 := hide (X4.out.below hb)
    clear hb
    obtain ⟨Q1, q1, Q2, q2, cs2, rfl, hO2, hI2⟩ := hd.of_enc HE.out
    have OR5 := hide hO2
    have OI5 := hide hI2
    clear hd hO2 hI2
    unfold partC
    go_upto_region 6 with fail
    obtain ⟨w6, hw⟩ : ∃ W, W = w5.alloc (.cells #[.int .i64 v.e, .int .i64 v.c, .int .i64 v.i, .int .i64 v.p, .int .i64 v.x, .slice Q1 v.fs.length q1, .slice Q2 v.is.length q2] 25) := ⟨_, rfl⟩
    have X5 : Hid (Blk w6 w5.heap.size 25 #[.int .i64 v.e, .int .i64 v.c, .int .i64 v.i, .int .i64 v.p, .int .i64 v.x, .slice Q1 v.fs.length q1, .slice Q2 v.is.length q2]) := hide (by rw [hw]; exact Blk.new _ _ _)
    have ba := (show Below w5.heap.size w5 w6 by rw [hw]; exact (Below.refl _ _).alloc (Nat.le_refl _) _)
    rw [← hw]
    obtain ⟨g6, hg⟩ : ∃ g, g = w5.heap.size := ⟨_, rfl⟩
    rw [← hg] at X5 ⊢
    replace OR3 := hide (OR3.out.kp (Kp.of_below (gs := []) ba) (by simp))
    replace OI3 := hide (own_bel OI3.out ba)
    replace BW3 := hide (BW3.out.trans (ba.mono BW3.out.size))
    replace O3 := hide (own_bel O3.out ba)
    replace X4 := hide (X4.out.below ba)
    replace OR5 := hide (OR5.out.kp (Kp.of_below (gs := []) ba) (by simp))
    replace OI5 := hide (own_bel OI5.out ba)
    clear hw ba hg
    have y0 := X4.out.cell 0
    have y1 := X4.out.cell 1
    have y2 := X4.out.cell 2
    have y3 := X4.out.cell 3
    have y4 := X4.out.cell 4
    have y5 := X4.out.cell 5
    have y6 := X4.out.cell 6
    simp only [List.getElem?_toArray, List.getElem?_cons_succ, List.getElem?_cons_zero] at y0 y1 y2 y3 y4 y5 y6
    have z0 := X5.out.cell 0
    have z1 := X5.out.cell 1
    have z2 := X5.out.cell 2
    have z3 := X5.out.cell 3
    have z4 := X5.out.cell 4
    have z5 := X5.out.cell 5
    have z6 := X5.out.cell 6
    simp only [List.getElem?_toArray, List.getElem?_cons_succ, List.getElem?_cons_zero] at z0 z1 z2 z3 z4 z5 z6
    have SM := hide (same_pv v v P1 P2 Q1 Q2 v.fs.length p1 v.is.length p2 v.fs.length q1 v.is.length q2 _ _ _ _ w2.heap.size w2.heap.size w4.heap.size w4.heap.size w6 OR3.out.fis OR5.out.fis (RwAt.of_own OI3.out) (RwAt.of_own OI5.out) (by omega) (by omega) (by omega) (by omega) HB4.out.1 HB4.out.1)
    rw [decide_eq_true (show v = v from rfl)] at SM
    go_wp2_with fail
    clear y0 y1 y2 y3 y4 y5 y6 z0 z1 z2 z3 z4 z5 z6
    refine SM.out.mono ?_
    rintro r w7 ⟨rfl, hb⟩
    replace OR3 := hide (OR3.out.kp (Kp.of_below (gs := []) hb) (by simp))
    replace OI3 := hide (own_bel OI3.out hb)
    replace BW3 := hide (BW3.out.trans (hb.mono BW3.out.size))
    replace O3 := hide (own_bel O3.out hb)
    replace X4 := hide (X4.out.below hb)
    clear hb SM X5
    have v1 := conv_at (c := k2) (own_byS O3.out)
    have v2 := conv_at (c := c) (RwAt.sl (RwAt.below H.out BW3.out))
    have v3 := txt_eq l
    have y0 := X4.out.cell 0
    have y1 := X4.out.cell 1
    have y2 := X4.out.cell 2
    have y3 := X4.out.cell 3
    have y4 := X4.out.cell 4
    have y5 := X4.out.cell 5
    have y6 := X4.out.cell 6
    simp only [List.getElem?_toArray, List.getElem?_cons_succ, List.getElem?_cons_zero] at y0 y1 y2 y3 y4 y5 y6
    go_wp2_with fail
    clear y0 y1 y2 y3 y4 y5 y6 v1 v2 v3
    refine (enc_good v.e v.c v.i v.p v.x s HE.out.2.1 P1 P2 v.fs.length p1 v.is.length p2 _ _ w2.heap.size w2.heap.size v.fs v.is w7 (SP.out.bel BW3.out) OR3.out.fis (RwAt.of_own OI3.out) HB4.out.2 HE.out.1).mono ?_
    rintro r w8 ⟨A8, k8, rfl, ho, hb⟩
    have B8 := hide (BW3.out.trans (hb.mono BW3.out.size))
    have hEB : encB v.e v.c (wordsB v.i v.p v.x v.fs v.is s) = l := HE.out.2.2.symm
    rw [hEB] at ho
    have v4 := conv_at (c := k8) (own_byS ho)
    have v5 := conv_at (c := c) (RwAt.sl (RwAt.below H.out B8.out))
    have v6 := txt_eq l
    clear ho hb hEB
    go_wp2_with fail
    go_ret
    exact ⟨rfl, B8.out⟩
  · obtain rfl := hd.of_no (fun v s h => hE ⟨v, s, h⟩)
    clear hd
    rw [zeroPart_eq]
    unfold partC
    go_upto_region 5 with fail
    obtain ⟨w4, hw⟩ : ∃ W, W = w3.alloc (.cells #[.int .i64 0, .int .i64 0, .int .i64 0, .int .i64 0, .int .i64 0, .slice none 0 0, .slice none 0 0] 25) := ⟨_, rfl⟩
    have X4 : Hid (Blk w4 w3.heap.size 25 #[.int .i64 0, .int .i64 0, .int .i64 0, .int .i64 0, .int .i64 0, .slice none 0 0, .slice none 0 0]) := hide (by rw [hw]; exact Blk.new _ _ _)
    have ba := (show Below w3.heap.size w3 w4 by rw [hw]; exact (Below.refl _ _).alloc (Nat.le_refl _) _)
    rw [← hw]
    obtain ⟨g4, hg⟩ : ∃ g, g = w3.heap.size := ⟨_, rfl⟩
    rw [← hg] at X4 ⊢
    replace BW3 := hide (BW3.out.trans (ba.mono BW3.out.size))
    replace O3 := hide (own_bel O3.out ba)
    clear hw ba hg
    go_wp2_with fail
    refine (rdec_any A n c w.heap.size l w4 (RwAt.below H.out BW3.out) BW3.out.size HC.out.1 HC.out.2).mono ?_
    rintro r w5 ⟨hd, hb⟩
    replace BW3 := hide (BW3.out.trans (hb.mono BW3.out.size))
    replace O3 := hide (own_bel O3.out hb)
    replace X4 := hide (X4.out.below hb)
    clear hb
    obtain rfl := hd.of_no (fun v s h => hE ⟨v, s, h⟩)
    clear hd
    rw [zeroPart_eq]
    unfold partC
    go_upto_region 6 with fail
    obtain ⟨w6, hw⟩ : ∃ W, W = w5.alloc (.cells #[.int .i64 0, .int .i64 0, .int .i64 0, .int .i64 0, .int .i64 0, .slice none 0 0, .slice none 0 0] 25) := ⟨_, rfl⟩
    have X5 : Hid (Blk w6 w5.heap.size 25 #[.int .i64 0, .int .i64 0, .int .i64 0, .int .i64 0, .int .i64 0, .slice none 0 0, .slice none 0 0]) := hide (by rw [hw]; exact Blk.new _ _ _)
    have ba := (show Below w5.heap.size w5 w6 by rw [hw]; exact (Below.refl _ _).alloc (Nat.le_refl _) _)
    rw [← hw]
    obtain ⟨g6, hg⟩ : ∃ g, g = w5.heap.size := ⟨_, rfl⟩
    rw [← hg] at X5 ⊢
    replace BW3 := hide (BW3.out.trans (ba.mono BW3.out.size))
    replace O3 := hide (own_bel O3.out ba)
    replace X4 := hide (X4.out.below ba)
    clear hw ba hg
    have y0 := X4.out.cell 0
    have y1 := X4.out.cell 1
    have y2 := X4.out.cell 2
    have y3 := X4.out.cell 3
    have y4 := X4.out.cell 4
    have y5 := X4.out.cell 5
    have y6 := X4.out.cell 6
    simp only [List.getElem?_toArray, List.getElem?_cons_succ, List.getElem?_cons_zero] at y0 y1 y2 y3 y4 y5 y6
    have z0 := X5.out.cell 0
    have z1 := X5.out.cell 1
    have z2 := X5.out.cell 2
    have z3 := X5.out.cell 3
    have z4 := X5.out.cell 4
    have z5 := X5.out.cell 5
    have z6 := X5.out.cell 6
    simp only [List.getElem?_toArray, List.getElem?_cons_succ, List.getElem?_cons_zero] at z0 z1 z2 z3 z4 z5 z6
    have SM := hide (same_pv ⟨0, 0, 0, 0, 0, [], []⟩ ⟨0, 0, 0, 0, 0, [], []⟩ none none none none 0 0 0 0 0 0 0 0 0 0 0 0 0 0 0 0 w6 FisAt.nil FisAt.nil RwAt.nil RwAt.nil (by omega) (by omega) (by omega) (by omega) (by simp) (by simp))
    rw [decide_eq_true rfl] at SM
    go_wp2_with fail
    clear y0 y1 y2 y3 y4 y5 y6 z0 z1 z2 z3 z4 z5 z6
    refine SM.out.mono ?_
    rintro r w7 ⟨rfl, hb⟩
    replace BW3 := hide (BW3.out.trans (hb.mono BW3.out.size))
    replace O3 := hide (own_bel O3.out hb)
    replace X4 := hide (X4.out.below hb)
    clear hb SM X5
    have v1 := conv_at (c := k2) (own_byS O3.out)
    have v2 := conv_at (c := c) (RwAt.sl (RwAt.below H.out BW3.out))
    have v3 := txt_eq l
    go_wp2_with fail
    go_ret
    exact ⟨rfl, BW3.out⟩
end Go.Proofs.YtbamdibpkkponaaDoor
