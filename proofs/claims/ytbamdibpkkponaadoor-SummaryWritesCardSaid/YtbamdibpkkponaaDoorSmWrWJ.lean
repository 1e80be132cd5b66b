import Derived.Test.YtbamdibpkkponaaDoorJb15
set_option linter.unusedVariables false
set_option linter.unusedSimpArgs false
/- The walk of SummaryWrites (printed by gen_smwrites.py). -/
namespace Go.Proofs.YtbamdibpkkponaaDoor
open Go.RowKit
attribute [local go_sem ↓] Go.wp_at_zero Go.wp_at_succ

theorem conv_atW {w : World} {A : Option Addr} {n c B : Nat} {l : List UInt8} (h : By w B A n l) : (convert 30 9 (.slice A n c)).run Tryd.prog w = .ok (.string (txt l)) w :=
  run_conv_txt w Tryd.underlying30 Tryd.underlying5 Tryd.underlying9 c h
set_option maxRecDepth 100000 in
set_option maxHeartbeats 4000000 in
theorem writes_all (v : PV) (sum : Nat) (hsum : sum < 4294967296) (A1 A2 : Option Addr) (n1 c1 n2 c2 : Nat) (w : World) (sp : SpanAt w) (hf : FisAt 0 w.heap.size w A1 n1 v.fs) (hi : IntsAt 0 w.heap.size w A2 n2 v.is)
    (hn1 : n1 ≤ 9223372036854775807) (hn2 : n2 ≤ 9223372036854775807) (hl : ∀ f ∈ v.fs, (∀ x ∈ f.ls, I64 x) ∧ f.ls.length ≤ 9223372036854775807) :
    Calls Tryd.prog 3 #[.agg (partC v.e v.c v.i v.p v.x A1 n1 c1 A2 n2 c2), .int .u32 (sum : Int)] w fun r w' => r = .returned (.bool true) ∧ Below w.heap.size w w' := by
  have HF := hide hf
  have HI := hide hi
  have SP := hide sp
  have HL := hide hl
  have H64 := hide (fun f hf => (hl f hf).1)
  have HLN := hide (And.intro hf.len (IntsAt.len hi))
  clear hf hi sp hl
  unfold partC
  go_enter Tryd.func3, Tryd.ntmps3
  go_upto_region 1 with fail
  obtain ⟨w1, hw⟩ : ∃ W, W = w.alloc (.cells #[.int .i64 v.e, .int .i64 v.c, .int .i64 v.i, .int .i64 v.p, .int .i64 v.x, .slice A1 n1 c1, .slice A2 n2 c2] 25) := ⟨_, rfl⟩
  have X2 : Hid (Blk w1 w.heap.size 25 #[.int .i64 v.e, .int .i64 v.c, .int .i64 v.i, .int .i64 v.p, .int .i64 v.x, .slice A1 n1 c1, .slice A2 n2 c2]) := hide (by rw [hw]; exact Blk.new _ _ _)
  have B1 : Hid (Below w.heap.size w w1) := hide (by rw [hw]; exact (Below.refl _ _).alloc (Nat.le_refl _) _)
  rw [← hw]
  obtain ⟨g2, hg⟩ : ∃ g, g = w.heap.size := ⟨_, rfl⟩
  rw [← hg] at X2 ⊢
  clear hw hg
  go_wp2_with fail
  refine (awake_any w1 (SP.out.bel B1.out)).mono ?_
  rintro r w2 ⟨rfl, hb⟩
  replace X2 := hide (X2.out.below hb)
  have BW := hide (B1.out.trans (hb.mono B1.out.size))
  clear hb B1
  have y0 := X2.out.cell 0
  have y1 := X2.out.cell 1
  have y2 := X2.out.cell 2
  have y3 := X2.out.cell 3
  have y4 := X2.out.cell 4
  have y5 := X2.out.cell 5
  have y6 := X2.out.cell 6
  simp only [List.getElem?_toArray, List.getElem?_cons_succ, List.getElem?_cons_zero] at y0 y1 y2 y3 y4 y5 y6
  go_wp2_with fail
  clear y0 y1 y2 y3 y4 y5 y6
  refine (few_any v.e v.c v.i v.p v.x A1 A2 n1 c1 n2 c2 _ _ v.fs w2 (HF.out.below BW.out) hn1 hn2 (fun f hf => (HL.out f hf).2)).mono ?_
  rintro r w3 ⟨⟨b, rfl, hfw⟩, hb⟩
  replace X2 := hide (X2.out.below hb)
  replace BW := hide (BW.out.trans (hb.mono BW.out.size))
  clear hb
  cases b with
  | false =>
    clear hfw
    go_wp2_with fail
    refine (awake_any w3 (SP.out.bel BW.out)).mono ?_
    rintro r w4 ⟨rfl, hb⟩
    have B4 := hide (BW.out.trans (hb.mono BW.out.size))
    clear hb
    go_wp2_with fail
    go_ret
    exact ⟨rfl, B4.out⟩
  | true =>
    obtain ⟨hn40, hn150, hls150⟩ := hfw rfl
    have HLS := hide (lsN_all (M := 150) (by omega : lsN v.fs ≤ 150))
    have hls2 : lsN v.fs ≤ 150 := by omega
    clear hfw hls150
    have y0 := X2.out.cell 0
    have y1 := X2.out.cell 1
    have y2 := X2.out.cell 2
    have y3 := X2.out.cell 3
    have y4 := X2.out.cell 4
    have y5 := X2.out.cell 5
    have y6 := X2.out.cell 6
    simp only [List.getElem?_toArray, List.getElem?_cons_succ, List.getElem?_cons_zero] at y0 y1 y2 y3 y4 y5 y6
    go_wp2_with fail
    clear y0 y1 y2 y3 y4 y5 y6
    refine (own_any v.e v.c v.i v.p v.x A1 A2 n1 c1 n2 c2 _ _ _ _ v.fs v.is w3 (HF.out.below BW.out) (RwAt.below HI.out BW.out) (by omega) (by omega) (fun f hf => Nat.le_trans (HLS.out f hf) (by decide))).mono ?_
    rintro r w4 ⟨B1, d1, B2, d2, rfl, hf2, hi2, hb⟩
    have F4 := hide hf2
    have I4 := hide hi2
    replace X2 := hide (X2.out.below hb)
    replace BW := hide (BW.out.trans (hb.mono BW.out.size))
    clear hf2 hi2 hb
    unfold partC
    go_upto_region 4 with fail
    obtain ⟨w5, hw⟩ : ∃ W, W = w4.alloc (.cells #[.int .i64 v.e, .int .i64 v.c, .int .i64 v.i, .int .i64 v.p, .int .i64 v.x, .slice B1 n1 d1, .slice B2 n2 d2] 25) := ⟨_, rfl⟩
    have X5 : Hid (Blk w5 w4.heap.size 25 #[.int .i64 v.e, .int .i64 v.c, .int .i64 v.i, .int .i64 v.p, .int .i64 v.x, .slice B1 n1 d1, .slice B2 n2 d2]) := hide (by rw [hw]; exact Blk.new _ _ _)
    have ba := (show Below w4.heap.size w4 w5 by rw [hw]; exact (Below.refl _ _).alloc (Nat.le_refl _) _)
    rw [← hw]
    obtain ⟨g5, hg⟩ : ∃ g, g = w4.heap.size := ⟨_, rfl⟩
    rw [← hg] at X5 ⊢
    replace X2 := hide (X2.out.below ba)
    replace BW := hide (BW.out.trans (ba.mono BW.out.size))
    replace F4 := hide (F4.out.below ba)
    replace I4 := hide (RwAt.below I4.out ba)
    clear hw ba hg
    have z0 := X5.out.cell 0
    have z1 := X5.out.cell 1
    have z2 := X5.out.cell 2
    have z3 := X5.out.cell 3
    have z4 := X5.out.cell 4
    have z5 := X5.out.cell 5
    have z6 := X5.out.cell 6
    simp only [List.getElem?_toArray, List.getElem?_cons_succ, List.getElem?_cons_zero] at z0 z1 z2 z3 z4 z5 z6
    go_wp2_with fail
    clear z0 z1 z2 z3 z4 z5 z6
    refine (enc_any v sum hsum B1 B2 n1 d1 n2 d2 _ _ _ _ w5 (SP.out.bel BW.out) F4.out I4.out (by omega) (by omega) (by omega) H64.out).mono ?_
    rintro r w6 ⟨ha, hb⟩
    have EA := hide ha
    replace X2 := hide (X2.out.below hb)
    replace X5 := hide (X5.out.below hb)
    replace BW := hide (BW.out.trans (hb.mono BW.out.size))
    replace F4 := hide (F4.out.below hb)
    replace I4 := hide (RwAt.below I4.out hb)
    clear ha hb
    have RC := hide (rcheck_any v.e v.c v.i v.p v.x A1 A2 n1 c1 n2 c2 _ _ _ _ v.fs v.is w6 (HF.out.below BW.out) (RwAt.below HI.out BW.out) (by omega) (by omega) (by omega) H64.out)
    by_cases hck : v.ck = 0
    · obtain ⟨A6, k6, rfl, ho⟩ : ∃ A k, r = .returned (.tuple #[.slice A 128 k, .int .i64 0]) ∧ OwnBy w6 w5.heap.size A 128 k (v.enc sum) := by
        rcases EA.out with ⟨-, h⟩ | ⟨h, -⟩
        · exact h
        · exact absurd hck h
      have O6 := hide ho
      have CKE := hide (show checkP v.e v.c v.i v.p v.x v.fs v.is = 0 from hck)
      clear ho EA
      rw [CKE.out] at RC
      have y0 := X2.out.cell 0
      have y1 := X2.out.cell 1
      have y2 := X2.out.cell 2
      have y3 := X2.out.cell 3
      have y4 := X2.out.cell 4
      have y5 := X2.out.cell 5
      have y6 := X2.out.cell 6
      simp only [List.getElem?_toArray, List.getElem?_cons_succ, List.getElem?_cons_zero] at y0 y1 y2 y3 y4 y5 y6
      go_wp2_with fail
      clear y0 y1 y2 y3 y4 y5 y6
      refine RC.out.mono ?_
      rintro r w7 ⟨rfl, hb⟩
      replace X2 := hide (X2.out.below hb)
      replace X5 := hide (X5.out.below hb)
      replace BW := hide (BW.out.trans (hb.mono BW.out.size))
      replace F4 := hide (F4.out.below hb)
      replace I4 := hide (RwAt.below I4.out hb)
      replace O6 := hide (own_bel O6.out hb)
      clear hb RC
      go_wp2_with fail
      have CPP := hide (fun (w' : World) (hb : Below w7.heap.size w7 w') => show (w'.cell? ⟨g2, 0, none⟩ = some (.int .i64 v.e) ∧ w'.cell? ⟨g2, 1, none⟩ = some (.int .i64 v.c) ∧ w'.cell? ⟨g2, 2, none⟩ = some (.int .i64 v.i) ∧ w'.cell? ⟨g2, 3, none⟩ = some (.int .i64 v.p) ∧ w'.cell? ⟨g2, 4, none⟩ = some (.int .i64 v.x) ∧ w'.cell? ⟨g2, 5, none⟩ = some (.slice A1 n1 c1) ∧ w'.cell? ⟨g2, 6, none⟩ = some (.slice A2 n2 c2)) ∧ (w'.cell? ⟨g5, 0, none⟩ = some (.int .i64 v.e) ∧ w'.cell? ⟨g5, 1, none⟩ = some (.int .i64 v.c) ∧ w'.cell? ⟨g5, 2, none⟩ = some (.int .i64 v.i) ∧ w'.cell? ⟨g5, 3, none⟩ = some (.int .i64 v.p) ∧ w'.cell? ⟨g5, 4, none⟩ = some (.int .i64 v.x) ∧ w'.cell? ⟨g5, 5, none⟩ = some (.slice B1 n1 d1) ∧ w'.cell? ⟨g5, 6, none⟩ = some (.slice B2 n2 d2)) from ⟨⟨(X2.out.below hb).cell 0, (X2.out.below hb).cell 1, (X2.out.below hb).cell 2, (X2.out.below hb).cell 3, (X2.out.below hb).cell 4, (X2.out.below hb).cell 5, (X2.out.below hb).cell 6⟩, ⟨(X5.out.below hb).cell 0, (X5.out.below hb).cell 1, (X5.out.below hb).cell 2, (X5.out.below hb).cell 3, (X5.out.below hb).cell 4, (X5.out.below hb).cell 5, (X5.out.below hb).cell 6⟩⟩)
      have FI := hide (fun (w' : World) (hb : Below w7.heap.size w7 w') => show FisAt w3.heap.size w3.heap.size w' B1 n1 v.fs ∧ IntsAt w3.heap.size w3.heap.size w' B2 n2 v.is ∧ FisAt 0 w.heap.size w' A1 n1 v.fs ∧ IntsAt 0 w.heap.size w' A2 n2 v.is ∧ SpanAt w' from ⟨F4.out.below hb, RwAt.below I4.out hb, HF.out.below (BW.out.trans (hb.mono BW.out.size)), RwAt.below HI.out (BW.out.trans (hb.mono BW.out.size)), SP.out.bel (BW.out.trans (hb.mono BW.out.size))⟩)
      have s0 := CPP.out _ (Below.refl _ _).drew
      refine wp_region_noPanic ?_
      refine wp_region_held_drew (S := (fun w' => (w'.cell? ⟨g2, 0, none⟩ = some (.int .i64 v.e) ∧ w'.cell? ⟨g2, 1, none⟩ = some (.int .i64 v.c) ∧ w'.cell? ⟨g2, 2, none⟩ = some (.int .i64 v.i) ∧ w'.cell? ⟨g2, 3, none⟩ = some (.int .i64 v.p) ∧ w'.cell? ⟨g2, 4, none⟩ = some (.int .i64 v.x) ∧ w'.cell? ⟨g2, 5, none⟩ = some (.slice A1 n1 c1) ∧ w'.cell? ⟨g2, 6, none⟩ = some (.slice A2 n2 c2)) ∧ (w'.cell? ⟨g5, 0, none⟩ = some (.int .i64 v.e) ∧ w'.cell? ⟨g5, 1, none⟩ = some (.int .i64 v.c) ∧ w'.cell? ⟨g5, 2, none⟩ = some (.int .i64 v.i) ∧ w'.cell? ⟨g5, 3, none⟩ = some (.int .i64 v.p) ∧ w'.cell? ⟨g5, 4, none⟩ = some (.int .i64 v.x) ∧ w'.cell? ⟨g5, 5, none⟩ = some (.slice B1 n1 d1) ∧ w'.cell? ⟨g5, 6, none⟩ = some (.slice B2 n2 d2)))) (by kernel_rfl) ?_ (fun hHeld => ?_)
      · ((try dsimp only) <;> (first | trivial | assumption | go_keep))
      clear s0
      have D0 := hide ((Below.refl w7.heap.size w7).drew)
      have hnn : ((0 : Int) != (0 : Int)) = false := bne_self_eq_false _
      refine wpAnyH_take (i := 0) (v := ?_) (by simp only [List.getElem?_toArray, List.getElem?_cons_succ, List.getElem?_cons_zero]; rfl) (by kernel_rfl) (by kernel_rfl) (by kernel_rfl) (fun _ _ _ h => h) (Or.inl ⟨by rfl, ?_⟩) (by assumption) ?_
      rotate_left 1
      · (intro w hSw; (try dsimp only at hSw); go_simp; try with_reducible rfl)
      try simp only [Act.put, List.setIfInBounds_toArray, List.set_cons_zero, List.set_cons_succ]
      refine wpAnyH_take (i := 1) (v := ?_) (by simp only [List.getElem?_toArray, List.getElem?_cons_succ, List.getElem?_cons_zero]; rfl) (by kernel_rfl) (by kernel_rfl) (by kernel_rfl) (fun _ _ _ h => h) (Or.inl ⟨by rfl, ?_⟩) (by assumption) ?_
      rotate_left 1
      · (intro w hSw; (try dsimp only at hSw); go_simp; try with_reducible rfl)
      try simp only [Act.put, List.setIfInBounds_toArray, List.set_cons_zero, List.set_cons_succ]
      refine wpAnyH_take (i := 2) (v := ?_) (by simp only [List.getElem?_toArray, List.getElem?_cons_succ, List.getElem?_cons_zero]; rfl) (by kernel_rfl) (by kernel_rfl) (by kernel_rfl) (fun _ _ _ h => h) (Or.inl ⟨by rfl, ?_⟩) (by assumption) ?_
      rotate_left 1
      · (intro w hSw; (try dsimp only at hSw); go_simp; try with_reducible rfl)
      try simp only [Act.put, List.setIfInBounds_toArray, List.set_cons_zero, List.set_cons_succ]
      try simp only [hnn]
      refine wpAnyH_take (i := 3) (v := ?_) (by simp only [List.getElem?_toArray, List.getElem?_cons_succ, List.getElem?_cons_zero]; rfl) (by kernel_rfl) (by kernel_rfl) (by kernel_rfl) (fun _ _ _ h => h) (Or.inl ⟨by rfl, ?_⟩) (by assumption) ?_
      rotate_left 1
      · (intro w hSw; (try dsimp only at hSw); go_simp; try with_reducible rfl)
      try simp only [Act.put, List.setIfInBounds_toArray, List.set_cons_zero, List.set_cons_succ]
      refine wpAnyH_take (i := 4) (v := ?_) (by simp only [List.getElem?_toArray, List.getElem?_cons_succ, List.getElem?_cons_zero]; rfl) (by kernel_rfl) (by kernel_rfl) (by kernel_rfl) (fun _ _ _ h => h) (Or.inl ⟨by rfl, ?_⟩) (by assumption) ?_
      rotate_left 1
      · (intro w hSw; (try dsimp only at hSw); go_simp; try with_reducible rfl)
      try simp only [Act.put, List.setIfInBounds_toArray, List.set_cons_zero, List.set_cons_succ]
      refine wpAnyH_take (i := 6) (v := ?_) (by simp only [List.getElem?_toArray, List.getElem?_cons_succ, List.getElem?_cons_zero]; rfl) (by kernel_rfl) (by kernel_rfl) (by kernel_rfl) (fun _ _ _ h => h) (Or.inl ⟨by rfl, ?_⟩) (by assumption) ?_
      rotate_left 1
      · (intro w hSw; (try dsimp only at hSw); go_simp; try with_reducible rfl)
      try simp only [Act.put, List.setIfInBounds_toArray, List.set_cons_zero, List.set_cons_succ]
      refine wpAnyH_ready (rs := [5]) (by kernel_rfl) (by simp) ?_
      refine AllReadyH.cons (by simp only [List.getElem?_toArray, List.getElem?_cons_succ, List.getElem?_cons_zero]; rfl) (fun K hK => ?_) ?_
      rotate_left 1
      · exact AllReadyH.nil
      go_simp
      refine (check_any v.e v.c v.i v.p v.x B1 B2 n1 d1 n2 d2 _ _ _ _ v.fs v.is w7.drew (FI.out _ D0.out).2.2.2.2 (FI.out _ D0.out).1 (FI.out _ D0.out).2.1 (by omega) (by omega) (by omega) H64.out).mono ?_; rintro r w8 ⟨rfl, hb⟩; rw [show checkP v.e v.c v.i v.p v.x v.fs v.is = (0 : Int) from CKE.out]; have D1 := hide (D0.out.trans (hb.mono D0.out.size)); clear hb
      refine hK.out _ _ ?_ (fun hHeld2 => ?_)
      · ((try dsimp only) <;> (exact CPP.out _ D1.out))
      clear hHeld
      have hHeld := hHeld2
      clear hHeld2 hK K
      try simp only [Act.put, List.setIfInBounds_toArray, List.set_cons_zero, List.set_cons_succ]
      refine wpAnyH_take (i := 7) (v := ?_) (by simp only [List.getElem?_toArray, List.getElem?_cons_succ, List.getElem?_cons_zero]; rfl) (by kernel_rfl) (by kernel_rfl) (by kernel_rfl) (fun _ _ _ h => h) (Or.inl ⟨by rfl, ?_⟩) (by assumption) ?_
      rotate_left 1
      · (intro w hSw; (try dsimp only at hSw); go_simp; try with_reducible rfl)
      try simp only [Act.put, List.setIfInBounds_toArray, List.set_cons_zero, List.set_cons_succ]
      try simp only [hnn]
      refine wpAnyH_take (i := 8) (v := ?_) (by simp only [List.getElem?_toArray, List.getElem?_cons_succ, List.getElem?_cons_zero]; rfl) (by kernel_rfl) (by kernel_rfl) (by kernel_rfl) (fun _ _ _ h => h) (Or.inl ⟨by rfl, ?_⟩) (by assumption) ?_
      rotate_left 1
      · (intro w hSw; (try dsimp only at hSw); go_simp; try with_reducible rfl)
      try simp only [Act.put, List.setIfInBounds_toArray, List.set_cons_zero, List.set_cons_succ]
      refine wpAnyH_take (i := 9) (v := ?_) (by simp only [List.getElem?_toArray, List.getElem?_cons_succ, List.getElem?_cons_zero]; rfl) (by kernel_rfl) (by kernel_rfl) (by kernel_rfl) (fun _ _ _ h => h) (Or.inl ⟨by rfl, ?_⟩) (by assumption) ?_
      rotate_left 1
      · (intro w hSw; (try dsimp only at hSw); go_simp; try with_reducible rfl)
      try simp only [Act.put, List.setIfInBounds_toArray, List.set_cons_zero, List.set_cons_succ]
      refine wpAnyH_take (i := 10) (v := ?_) (by simp only [List.getElem?_toArray, List.getElem?_cons_succ, List.getElem?_cons_zero]; rfl) (by kernel_rfl) (by kernel_rfl) (by kernel_rfl) (fun _ _ _ h => h) (Or.inl ⟨by rfl, ?_⟩) (by assumption) ?_
      rotate_left 1
      · (intro w hSw; (try dsimp only at hSw); go_simp; try with_reducible rfl)
      try simp only [Act.put, List.setIfInBounds_toArray, List.set_cons_zero, List.set_cons_succ]
      refine wpAnyH_take (i := 12) (v := ?_) (by simp only [List.getElem?_toArray, List.getElem?_cons_succ, List.getElem?_cons_zero]; rfl) (by kernel_rfl) (by kernel_rfl) (by kernel_rfl) (fun _ _ _ h => h) (Or.inl ⟨by rfl, ?_⟩) (by assumption) ?_
      rotate_left 1
      · (intro w hSw; (try dsimp only at hSw); go_simp; try with_reducible rfl)
      try simp only [Act.put, List.setIfInBounds_toArray, List.set_cons_zero, List.set_cons_succ]
      refine wpAnyH_ready (rs := [11]) (by kernel_rfl) (by simp) ?_
      refine AllReadyH.cons (by simp only [List.getElem?_toArray, List.getElem?_cons_succ, List.getElem?_cons_zero]; rfl) (fun K hK => ?_) ?_
      rotate_left 1
      · exact AllReadyH.nil
      go_simp
      refine (size_any v.e v.c v.i v.p v.x B1 B2 n1 d1 n2 d2 _ _ v.fs w8 (FI.out _ D1.out).1 (by omega) (by omega) (by omega)).mono ?_; rintro r w9 ⟨rfl, hb⟩; have D2 := hide (D1.out.trans (hb.mono D1.out.size)); clear hb
      refine hK.out _ _ ?_ (fun hHeld2 => ?_)
      · ((try dsimp only) <;> (exact CPP.out _ D2.out))
      clear hHeld
      have hHeld := hHeld2
      clear hHeld2 hK K
      try simp only [Act.put, List.setIfInBounds_toArray, List.set_cons_zero, List.set_cons_succ]
      refine wpAnyH_ready (rs := [13]) (by kernel_rfl) (by simp) ?_
      refine AllReadyH.cons (by simp only [List.getElem?_toArray, List.getElem?_cons_succ, List.getElem?_cons_zero]; rfl) (fun K hK => ?_) ?_
      rotate_left 1
      · exact AllReadyH.nil
      go_simp
      refine (rsize_any v.e v.c v.i v.p v.x A1 A2 n1 c1 n2 c2 _ _ v.fs w9 (FI.out _ D2.out).2.2.1 (by omega) (by omega) (by omega)).mono ?_; rintro r w10 ⟨rfl, hb⟩; have D3 := hide (D2.out.trans (hb.mono D2.out.size)); clear hb
      refine hK.out _ _ ?_ (fun hHeld2 => ?_)
      · ((try dsimp only) <;> (exact CPP.out _ D3.out))
      clear hHeld
      have hHeld := hHeld2
      clear hHeld2 hK K
      try simp only [Act.put, List.setIfInBounds_toArray, List.set_cons_zero, List.set_cons_succ]
      refine wpAnyH_take (i := 14) (v := ?_) (by simp only [List.getElem?_toArray, List.getElem?_cons_succ, List.getElem?_cons_zero]; rfl) (by kernel_rfl) (by kernel_rfl) (by kernel_rfl) (fun _ _ _ h => h) (Or.inl ⟨by rfl, ?_⟩) (by assumption) ?_
      rotate_left 1
      · (intro w hSw; (try dsimp only at hSw); go_simp; try with_reducible rfl)
      try simp only [Act.put, List.setIfInBounds_toArray, List.set_cons_zero, List.set_cons_succ]
      try simp only [bne_self_eq_false]
      refine wpAnyH_take (i := 15) (v := ?_) (by simp only [List.getElem?_toArray, List.getElem?_cons_succ, List.getElem?_cons_zero]; rfl) (by kernel_rfl) (by kernel_rfl) (by kernel_rfl) (fun _ _ _ h => h) (Or.inl ⟨by rfl, ?_⟩) (by assumption) ?_
      rotate_left 1
      · (intro w hSw; (try dsimp only at hSw); go_simp; try with_reducible rfl)
      try simp only [Act.put, List.setIfInBounds_toArray, List.set_cons_zero, List.set_cons_succ]
      refine wpAnyH_take (i := 16) (v := ?_) (by simp only [List.getElem?_toArray, List.getElem?_cons_succ, List.getElem?_cons_zero]; rfl) (by kernel_rfl) (by kernel_rfl) (by kernel_rfl) (fun _ _ _ h => h) (Or.inl ⟨by rfl, ?_⟩) (by assumption) ?_
      rotate_left 1
      · (intro w hSw; (try dsimp only at hSw); go_simp; try with_reducible rfl)
      try simp only [Act.put, List.setIfInBounds_toArray, List.set_cons_zero, List.set_cons_succ]
      refine wpAnyH_take (i := 17) (v := ?_) (by simp only [List.getElem?_toArray, List.getElem?_cons_succ, List.getElem?_cons_zero]; rfl) (by kernel_rfl) (by kernel_rfl) (by kernel_rfl) (fun _ _ _ h => h) (Or.inl ⟨by rfl, ?_⟩) (by assumption) ?_
      rotate_left 1
      · (intro w hSw; (try dsimp only at hSw); go_simp; try with_reducible rfl)
      try simp only [Act.put, List.setIfInBounds_toArray, List.set_cons_zero, List.set_cons_succ]
      refine wpAnyH_take (i := 19) (v := ?_) (by simp only [List.getElem?_toArray, List.getElem?_cons_succ, List.getElem?_cons_zero]; rfl) (by kernel_rfl) (by kernel_rfl) (by kernel_rfl) (fun _ _ _ h => h) (Or.inl ⟨by rfl, ?_⟩) (by assumption) ?_
      rotate_left 1
      · (intro w hSw; (try dsimp only at hSw); go_simp; try with_reducible rfl)
      try simp only [Act.put, List.setIfInBounds_toArray, List.set_cons_zero, List.set_cons_succ]
      refine wpAnyH_ready (rs := [18]) (by kernel_rfl) (by simp) ?_
      refine AllReadyH.cons (by simp only [List.getElem?_toArray, List.getElem?_cons_succ, List.getElem?_cons_zero]; rfl) (fun K hK => ?_) ?_
      rotate_left 1
      · exact AllReadyH.nil
      go_simp
      refine (sblocks_any v.e v.c v.i v.p v.x B1 B2 n1 d1 n2 d2 _ _ v.fs w10 (FI.out _ D3.out).1 (by omega) (by omega) (by omega)).mono ?_; rintro r w11 ⟨rfl, hb⟩; have D4 := hide (D3.out.trans (hb.mono D3.out.size)); clear hb
      refine hK.out _ _ ?_ (fun hHeld2 => ?_)
      · ((try dsimp only) <;> (exact CPP.out _ D4.out))
      clear hHeld
      have hHeld := hHeld2
      clear hHeld2 hK K
      try simp only [Act.put, List.setIfInBounds_toArray, List.set_cons_zero, List.set_cons_succ]
      refine wpAnyH_ready (rs := [20]) (by kernel_rfl) (by simp) ?_
      refine AllReadyH.cons (by simp only [List.getElem?_toArray, List.getElem?_cons_succ, List.getElem?_cons_zero]; rfl) (fun K hK => ?_) ?_
      rotate_left 1
      · exact AllReadyH.nil
      go_simp
      refine (rblocks_any v.e v.c v.i v.p v.x A1 A2 n1 c1 n2 c2 _ _ v.fs w11 (FI.out _ D4.out).2.2.1 (by omega) (by omega) (by omega)).mono ?_; rintro r w12 ⟨rfl, hb⟩; have D5 := hide (D4.out.trans (hb.mono D4.out.size)); clear hb
      refine hK.out _ _ ?_ (fun hHeld2 => ?_)
      · ((try dsimp only) <;> (exact CPP.out _ D5.out))
      clear hHeld
      have hHeld := hHeld2
      clear hHeld2 hK K
      try simp only [Act.put, List.setIfInBounds_toArray, List.set_cons_zero, List.set_cons_succ]
      refine wpAnyH_take (i := 21) (v := ?_) (by simp only [List.getElem?_toArray, List.getElem?_cons_succ, List.getElem?_cons_zero]; rfl) (by kernel_rfl) (by kernel_rfl) (by kernel_rfl) (fun _ _ _ h => h) (Or.inl ⟨by rfl, ?_⟩) (by assumption) ?_
      rotate_left 1
      · (intro w hSw; (try dsimp only at hSw); go_simp; try with_reducible rfl)
      try simp only [Act.put, List.setIfInBounds_toArray, List.set_cons_zero, List.set_cons_succ]
      try simp only [bne_self_eq_false]
      refine wpAnyH_take (i := 22) (v := ?_) (by simp only [List.getElem?_toArray, List.getElem?_cons_succ, List.getElem?_cons_zero]; rfl) (by kernel_rfl) (by kernel_rfl) (by kernel_rfl) (fun _ _ _ h => h) (Or.inl ⟨by rfl, ?_⟩) (by assumption) ?_
      rotate_left 1
      · (intro w hSw; (try dsimp only at hSw); go_simp; try with_reducible rfl)
      try simp only [Act.put, List.setIfInBounds_toArray, List.set_cons_zero, List.set_cons_succ]
      refine wpAnyH_take (i := 23) (v := ?_) (by simp only [List.getElem?_toArray, List.getElem?_cons_succ, List.getElem?_cons_zero]; rfl) (by kernel_rfl) (by kernel_rfl) (by kernel_rfl) (fun _ _ _ h => h) (Or.inl ⟨by rfl, ?_⟩) (by assumption) ?_
      rotate_left 1
      · (intro w hSw; (try dsimp only at hSw); go_simp; try with_reducible rfl)
      try simp only [Act.put, List.setIfInBounds_toArray, List.set_cons_zero, List.set_cons_succ]
      refine wpAnyH_take (i := 24) (v := ?_) (by simp only [List.getElem?_toArray, List.getElem?_cons_succ, List.getElem?_cons_zero]; rfl) (by kernel_rfl) (by kernel_rfl) (by kernel_rfl) (fun _ _ _ h => h) (Or.inl ⟨by rfl, ?_⟩) (by assumption) ?_
      rotate_left 1
      · (intro w hSw; (try dsimp only at hSw); go_simp; try with_reducible rfl)
      try simp only [Act.put, List.setIfInBounds_toArray, List.set_cons_zero, List.set_cons_succ]
      refine wpAnyH_take (i := 25) (v := ?_) (by simp only [List.getElem?_toArray, List.getElem?_cons_succ, List.getElem?_cons_zero]; rfl) (by kernel_rfl) (by kernel_rfl) (by kernel_rfl) (fun _ _ _ h => h) (Or.inl ⟨by rfl, ?_⟩) (by assumption) ?_
      rotate_left 1
      · (intro w hSw; (try dsimp only at hSw); go_simp; try with_reducible rfl)
      try simp only [Act.put, List.setIfInBounds_toArray, List.set_cons_zero, List.set_cons_succ]
      refine wpAnyH_ready (rs := [26]) (by kernel_rfl) (by simp) ?_
      refine AllReadyH.cons (by simp only [List.getElem?_toArray, List.getElem?_cons_succ, List.getElem?_cons_zero]; rfl) (fun K hK => ?_) ?_
      rotate_left 1
      · exact AllReadyH.nil
      go_simp
      refine (same_pv v v B1 B2 A1 A2 n1 d1 n2 d2 n1 c1 n2 c2 _ _ _ _ _ _ _ _ w12 (FI.out _ D5.out).1 (FI.out _ D5.out).2.2.1 (FI.out _ D5.out).2.1 (FI.out _ D5.out).2.2.2.1 (by omega) (by omega) (by omega) (by omega) (fun f hf => Nat.le_trans (HLS.out f hf) (by decide)) (fun f hf => Nat.le_trans (HLS.out f hf) (by decide))).mono ?_; rintro r w13 ⟨rfl, hb⟩; rw [decide_eq_true (show v = v from rfl)]; have D6 := hide (D5.out.trans (hb.mono D5.out.size)); clear hb
      refine hK.out _ _ ?_ (fun hHeld2 => ?_)
      · ((try dsimp only) <;> (exact CPP.out _ D6.out))
      clear hHeld
      have hHeld := hHeld2
      clear hHeld2 hK K
      try simp only [Act.put, List.setIfInBounds_toArray, List.set_cons_zero, List.set_cons_succ]
      refine wpAnyH_take (i := 27) (v := ?_) (by simp only [List.getElem?_toArray, List.getElem?_cons_succ, List.getElem?_cons_zero]; rfl) (by kernel_rfl) (by kernel_rfl) (by kernel_rfl) (fun _ _ _ h => h) (Or.inl ⟨by rfl, ?_⟩) (by assumption) ?_
      rotate_left 1
      · (intro w hSw; (try dsimp only at hSw); go_simp; try with_reducible rfl)
      try simp only [Act.put, List.setIfInBounds_toArray, List.set_cons_zero, List.set_cons_succ]
      refine wpAnyH_take (i := 28) (v := ?_) (by simp only [List.getElem?_toArray, List.getElem?_cons_succ, List.getElem?_cons_zero]; rfl) (by kernel_rfl) (by kernel_rfl) (by kernel_rfl) (fun _ _ _ h => h) (Or.inl ⟨by rfl, ?_⟩) (by assumption) ?_
      rotate_left 1
      · (intro w hSw; (try dsimp only at hSw); go_simp; try with_reducible rfl)
      try simp only [Act.put, List.setIfInBounds_toArray, List.set_cons_zero, List.set_cons_succ]
      refine wpAnyH_done (by kernel_rfl) ?_ _
      refine NoPanic.normal ?_
      clear hHeld hnn CPP
      replace X2 := hide (X2.out.below D6.out)
      replace X5 := hide (X5.out.below D6.out)
      have BX := hide (BW.out.trans (D6.out.mono BW.out.size))
      replace O6 := hide (own_bel O6.out D6.out)
      clear FI F4 I4 D0 D1 D2 D3 D4 D5 D6
      have CK := hide (show 128 ≤ k6 ∧ k6 ≤ 9223372036854775807 by
        obtain ⟨_, _, e, h1, h2⟩ := own_form O6.out
        injection e with e1 e2 e3
        subst e3
        exact ⟨h1, h2⟩)
      have DC := hide (dec_any A6 128 k6 w13.heap.size _ w13 (RwAt.lo_ (RwAt.of_own O6.out) (Nat.zero_le _)) (Nat.le_refl _) CK.out.1 CK.out.2 (SP.out.bel BX.out))
      go_wp2_with fail
      refine DC.out.mono ?_
      rintro r w14 ⟨hd, hb⟩
      obtain ⟨Q1, q1, Q2, q2, cs, rfl, hO1, hI1⟩ := hd.of_enc (v := v) (s := sum) ⟨hck, hsum, rfl⟩
      have OR := hide hO1
      have OI := hide hI1
      replace X2 := hide (X2.out.below hb)
      replace O6 := hide (own_bel O6.out hb)
      replace BX := hide (BX.out.trans (hb.mono BX.out.size))
      clear hd hO1 hI1 hb DC X5
      unfold partC
      go_upto_region 11 with fail
      obtain ⟨w15, hw⟩ : ∃ W, W = w14.alloc (.cells #[.int .i64 v.e, .int .i64 v.c, .int .i64 v.i, .int .i64 v.p, .int .i64 v.x, .slice Q1 v.fs.length q1, .slice Q2 v.is.length q2] 25) := ⟨_, rfl⟩
      have X9 : Hid (Blk w15 w14.heap.size 25 #[.int .i64 v.e, .int .i64 v.c, .int .i64 v.i, .int .i64 v.p, .int .i64 v.x, .slice Q1 v.fs.length q1, .slice Q2 v.is.length q2]) := hide (by rw [hw]; exact Blk.new _ _ _)
      have ba := (show Below w14.heap.size w14 w15 by rw [hw]; exact (Below.refl _ _).alloc (Nat.le_refl _) _)
      rw [← hw]
      obtain ⟨g9, hg⟩ : ∃ g, g = w14.heap.size := ⟨_, rfl⟩
      rw [← hg] at X9 ⊢
      replace X2 := hide (X2.out.below ba)
      replace O6 := hide (own_bel O6.out ba)
      replace OR := hide (OR.out.kp (Kp.of_below (gs := []) ba) (by simp))
      replace OI := hide (own_bel OI.out ba)
      replace BX := hide (BX.out.trans (ba.mono BX.out.size))
      clear hw ba hg
      obtain ⟨EL, hEL⟩ : ∃ x, x = v.enc sum := ⟨_, rfl⟩
      have HEL := hide hEL
      rw [← hEL] at O6
      clear hEL
      obtain ⟨cv, hcv⟩ := cv_ex Tryd.prog 30 9
      have hcb : ∀ w' : World, By w' w15.heap.size A6 128 EL → cv (.slice A6 128 k6) w' = .ok (.string (txt EL)) w' := fun w' h => cv_txt hcv Tryd.underlying30 Tryd.underlying5 Tryd.underlying9 k6 h
      have BYL := hide (own_byS O6.out)
      have CPP := hide (fun (w' : World) (hb : Below w15.heap.size w15 w') => show w'.cell? ⟨g2, 0, none⟩ = some (.int .i64 v.e) ∧ w'.cell? ⟨g2, 1, none⟩ = some (.int .i64 v.c) ∧ w'.cell? ⟨g2, 2, none⟩ = some (.int .i64 v.i) ∧ w'.cell? ⟨g2, 3, none⟩ = some (.int .i64 v.p) ∧ w'.cell? ⟨g2, 4, none⟩ = some (.int .i64 v.x) ∧ w'.cell? ⟨g2, 5, none⟩ = some (.slice A1 n1 c1) ∧ w'.cell? ⟨g2, 6, none⟩ = some (.slice A2 n2 c2) ∧ w'.cell? ⟨g9, 0, none⟩ = some (.int .i64 v.e) ∧ w'.cell? ⟨g9, 1, none⟩ = some (.int .i64 v.c) ∧ w'.cell? ⟨g9, 2, none⟩ = some (.int .i64 v.i) ∧ w'.cell? ⟨g9, 3, none⟩ = some (.int .i64 v.p) ∧ w'.cell? ⟨g9, 4, none⟩ = some (.int .i64 v.x) ∧ w'.cell? ⟨g9, 5, none⟩ = some (.slice Q1 v.fs.length q1) ∧ w'.cell? ⟨g9, 6, none⟩ = some (.slice Q2 v.is.length q2) ∧ By w' w15.heap.size A6 128 EL from ⟨(X2.out.below hb).cell 0, (X2.out.below hb).cell 1, (X2.out.below hb).cell 2, (X2.out.below hb).cell 3, (X2.out.below hb).cell 4, (X2.out.below hb).cell 5, (X2.out.below hb).cell 6, (X9.out.below hb).cell 0, (X9.out.below hb).cell 1, (X9.out.below hb).cell 2, (X9.out.below hb).cell 3, (X9.out.below hb).cell 4, (X9.out.below hb).cell 5, (X9.out.below hb).cell 6, Sl.below BYL.out hb⟩)
      have s0 := CPP.out _ (Below.refl _ _).drew
      refine wp_region_noPanic ?_
      refine wp_region_held_drew (S := (fun w' => w'.cell? ⟨g2, 0, none⟩ = some (.int .i64 v.e) ∧ w'.cell? ⟨g2, 1, none⟩ = some (.int .i64 v.c) ∧ w'.cell? ⟨g2, 2, none⟩ = some (.int .i64 v.i) ∧ w'.cell? ⟨g2, 3, none⟩ = some (.int .i64 v.p) ∧ w'.cell? ⟨g2, 4, none⟩ = some (.int .i64 v.x) ∧ w'.cell? ⟨g2, 5, none⟩ = some (.slice A1 n1 c1) ∧ w'.cell? ⟨g2, 6, none⟩ = some (.slice A2 n2 c2) ∧ w'.cell? ⟨g9, 0, none⟩ = some (.int .i64 v.e) ∧ w'.cell? ⟨g9, 1, none⟩ = some (.int .i64 v.c) ∧ w'.cell? ⟨g9, 2, none⟩ = some (.int .i64 v.i) ∧ w'.cell? ⟨g9, 3, none⟩ = some (.int .i64 v.p) ∧ w'.cell? ⟨g9, 4, none⟩ = some (.int .i64 v.x) ∧ w'.cell? ⟨g9, 5, none⟩ = some (.slice Q1 v.fs.length q1) ∧ w'.cell? ⟨g9, 6, none⟩ = some (.slice Q2 v.is.length q2) ∧ By w' w15.heap.size A6 128 EL)) (by kernel_rfl) ?_ (fun hHeld => ?_)
      · ((try dsimp only) <;> (first | trivial | assumption | go_keep))
      clear s0
      have D0 := hide ((Below.refl w15.heap.size w15).drew)
      have E0 := hide (BX.out.trans (D0.out.mono BX.out.size))
      have heq := txt_eq EL
      refine wpAnyH_take (i := 0) (v := ?_) (by simp only [List.getElem?_toArray, List.getElem?_cons_succ, List.getElem?_cons_zero]; rfl) (by kernel_rfl) (by kernel_rfl) (by kernel_rfl) (fun _ _ _ h => h) (Or.inl ⟨by rfl, ?_⟩) (by assumption) ?_
      rotate_left 1
      · (intro w hSw; (try dsimp only at hSw); go_simp; try with_reducible rfl)
      try simp only [Act.put, List.setIfInBounds_toArray, List.set_cons_zero, List.set_cons_succ]
      refine wpAnyH_take (i := 1) (v := ?_) (by simp only [List.getElem?_toArray, List.getElem?_cons_succ, List.getElem?_cons_zero]; rfl) (by kernel_rfl) (by kernel_rfl) (by kernel_rfl) (fun _ _ _ h => h) (Or.inl ⟨by rfl, ?_⟩) (by assumption) ?_
      rotate_left 1
      · (intro w hSw; (try dsimp only at hSw); go_simp; try with_reducible rfl)
      try simp only [Act.put, List.setIfInBounds_toArray, List.set_cons_zero, List.set_cons_succ]
      refine wpAnyH_take (i := 2) (v := ?_) (by simp only [List.getElem?_toArray, List.getElem?_cons_succ, List.getElem?_cons_zero]; rfl) (by kernel_rfl) (by kernel_rfl) (by kernel_rfl) (fun _ _ _ h => h) (Or.inl ⟨by rfl, ?_⟩) (by assumption) ?_
      rotate_left 1
      · (intro w hSw; (try dsimp only at hSw); go_simp; try with_reducible rfl)
      try simp only [Act.put, List.setIfInBounds_toArray, List.set_cons_zero, List.set_cons_succ]
      refine wpAnyH_take (i := 3) (v := ?_) (by simp only [List.getElem?_toArray, List.getElem?_cons_succ, List.getElem?_cons_zero]; rfl) (by kernel_rfl) (by kernel_rfl) (by kernel_rfl) (fun _ _ _ h => h) (Or.inl ⟨by rfl, ?_⟩) (by assumption) ?_
      rotate_left 1
      · (intro w hSw; (try dsimp only at hSw); go_simp; try with_reducible rfl)
      try simp only [Act.put, List.setIfInBounds_toArray, List.set_cons_zero, List.set_cons_succ]
      have EC := hide (renc_any v.e v.c v.i v.p v.x sum hsum A1 A2 n1 c1 n2 c2 _ _ _ _ v.fs v.is w15.drew (HF.out.below E0.out) (RwAt.below HI.out E0.out) hck)
      rw [show encB v.e v.c (wordsB v.i v.p v.x v.fs v.is sum) = EL from HEL.out.symm] at EC
      refine wpAnyH_ready (rs := [4]) (by kernel_rfl) (by simp) ?_
      refine AllReadyH.cons (by simp only [List.getElem?_toArray, List.getElem?_cons_succ, List.getElem?_cons_zero]; rfl) (fun K hK => ?_) ?_
      rotate_left 1
      · exact AllReadyH.nil
      go_simp
      refine EC.out.mono ?_; rintro r w16 ⟨Ae, ke, rfl, ho, hb⟩; have hce := cv_txt hcv Tryd.underlying30 Tryd.underlying5 Tryd.underlying9 ke (own_byS ho); have D1 := hide (D0.out.trans (hb.mono D0.out.size)); clear ho hb
      refine hK.out _ _ ?_ (fun hHeld2 => ?_)
      · ((try dsimp only) <;> (exact CPP.out _ D1.out))
      clear hHeld
      have hHeld := hHeld2
      clear hHeld2 hK K
      try simp only [Act.put, List.setIfInBounds_toArray, List.set_cons_zero, List.set_cons_succ]
      refine wpAnyH_ready (rs := [5]) (by kernel_rfl) (by simp) ?_
      refine AllReadyH.cons (by simp only [List.getElem?_toArray, List.getElem?_cons_succ, List.getElem?_cons_zero]; rfl) (fun K hK => ?_) ?_
      rotate_left 1
      · exact AllReadyH.nil
      go_simp
      refine hK.out _ _ ?_ (fun hHeld2 => ?_)
      · ((try dsimp only) <;> (exact CPP.out _ D1.out))
      clear hHeld
      have hHeld := hHeld2
      clear hHeld2 hK K
      try simp only [Act.put, List.setIfInBounds_toArray, List.set_cons_zero, List.set_cons_succ]
      refine wpAnyH_take (i := 6) (v := ?_) (by simp only [List.getElem?_toArray, List.getElem?_cons_succ, List.getElem?_cons_zero]; rfl) (by kernel_rfl) (by kernel_rfl) (by kernel_rfl) (fun _ _ _ h => h) (Or.inl ⟨by rfl, ?_⟩) (by assumption) ?_
      rotate_left 1
      · (intro w hSw; (try dsimp only at hSw); go_simp; try with_reducible rfl)
      try simp only [Act.put, List.setIfInBounds_toArray, List.set_cons_zero, List.set_cons_succ]
      try simp only [heq]
      refine wpAnyH_take (i := 7) (v := ?_) (by simp only [List.getElem?_toArray, List.getElem?_cons_succ, List.getElem?_cons_zero]; rfl) (by kernel_rfl) (by kernel_rfl) (by kernel_rfl) (fun _ _ _ h => h) (Or.inl ⟨by rfl, ?_⟩) (by assumption) ?_
      rotate_left 1
      · (intro w hSw; (try dsimp only at hSw); go_simp; try with_reducible rfl)
      try simp only [Act.put, List.setIfInBounds_toArray, List.set_cons_zero, List.set_cons_succ]
      refine wpAnyH_take (i := 8) (v := ?_) (by simp only [List.getElem?_toArray, List.getElem?_cons_succ, List.getElem?_cons_zero]; rfl) (by kernel_rfl) (by kernel_rfl) (by kernel_rfl) (fun _ _ _ h => h) (Or.inl ⟨by rfl, ?_⟩) (by assumption) ?_
      rotate_left 1
      · (intro w hSw; (try dsimp only at hSw); go_simp; try with_reducible rfl)
      try simp only [Act.put, List.setIfInBounds_toArray, List.set_cons_zero, List.set_cons_succ]
      refine wpAnyH_take (i := 9) (v := ?_) (by simp only [List.getElem?_toArray, List.getElem?_cons_succ, List.getElem?_cons_zero]; rfl) (by kernel_rfl) (by kernel_rfl) (by kernel_rfl) (fun _ _ _ h => h) (Or.inl ⟨by rfl, ?_⟩) (by assumption) ?_
      rotate_left 1
      · (intro w hSw; (try dsimp only at hSw); go_simp; try with_reducible rfl)
      try simp only [Act.put, List.setIfInBounds_toArray, List.set_cons_zero, List.set_cons_succ]
      refine wpAnyH_take (i := 10) (v := ?_) (by simp only [List.getElem?_toArray, List.getElem?_cons_succ, List.getElem?_cons_zero]; rfl) (by kernel_rfl) (by kernel_rfl) (by kernel_rfl) (fun _ _ _ h => h) (Or.inl ⟨by rfl, ?_⟩) (by assumption) ?_
      rotate_left 1
      · (intro w hSw; (try dsimp only at hSw); go_simp; try with_reducible rfl)
      try simp only [Act.put, List.setIfInBounds_toArray, List.set_cons_zero, List.set_cons_succ]
      refine wpAnyH_take (i := 11) (v := ?_) (by simp only [List.getElem?_toArray, List.getElem?_cons_succ, List.getElem?_cons_zero]; rfl) (by kernel_rfl) (by kernel_rfl) (by kernel_rfl) (fun _ _ _ h => h) (Or.inl ⟨by rfl, ?_⟩) (by assumption) ?_
      rotate_left 1
      · (intro w hSw; (try dsimp only at hSw); go_simp; try with_reducible rfl)
      try simp only [Act.put, List.setIfInBounds_toArray, List.set_cons_zero, List.set_cons_succ]
      refine wpAnyH_take (i := 12) (v := ?_) (by simp only [List.getElem?_toArray, List.getElem?_cons_succ, List.getElem?_cons_zero]; rfl) (by kernel_rfl) (by kernel_rfl) (by kernel_rfl) (fun _ _ _ h => h) (Or.inl ⟨by rfl, ?_⟩) (by assumption) ?_
      rotate_left 1
      · (intro w hSw; (try dsimp only at hSw); go_simp; try with_reducible rfl)
      try simp only [Act.put, List.setIfInBounds_toArray, List.set_cons_zero, List.set_cons_succ]
      refine wpAnyH_take (i := 13) (v := ?_) (by simp only [List.getElem?_toArray, List.getElem?_cons_succ, List.getElem?_cons_zero]; rfl) (by kernel_rfl) (by kernel_rfl) (by kernel_rfl) (fun _ _ _ h => h) (Or.inl ⟨by rfl, ?_⟩) (by assumption) ?_
      rotate_left 1
      · (intro w hSw; (try dsimp only at hSw); go_simp; try with_reducible rfl)
      try simp only [Act.put, List.setIfInBounds_toArray, List.set_cons_zero, List.set_cons_succ]
      refine wpAnyH_take (i := 14) (v := ?_) (by simp only [List.getElem?_toArray, List.getElem?_cons_succ, List.getElem?_cons_zero]; rfl) (by kernel_rfl) (by kernel_rfl) (by kernel_rfl) (fun _ _ _ h => h) (Or.inl ⟨by rfl, ?_⟩) (by assumption) ?_
      rotate_left 1
      · (intro w hSw; (try dsimp only at hSw); go_simp; try with_reducible rfl)
      try simp only [Act.put, List.setIfInBounds_toArray, List.set_cons_zero, List.set_cons_succ]
      refine wpAnyH_take (i := 15) (v := ?_) (by simp only [List.getElem?_toArray, List.getElem?_cons_succ, List.getElem?_cons_zero]; rfl) (by kernel_rfl) (by kernel_rfl) (by kernel_rfl) (fun _ _ _ h => h) (Or.inl ⟨by rfl, ?_⟩) (by assumption) ?_
      rotate_left 1
      · (intro w hSw; (try dsimp only at hSw); go_simp; try with_reducible rfl)
      try simp only [Act.put, List.setIfInBounds_toArray, List.set_cons_zero, List.set_cons_succ]
      refine wpAnyH_take (i := 16) (v := ?_) (by simp only [List.getElem?_toArray, List.getElem?_cons_succ, List.getElem?_cons_zero]; rfl) (by kernel_rfl) (by kernel_rfl) (by kernel_rfl) (fun _ _ _ h => h) (Or.inl ⟨by rfl, ?_⟩) (by assumption) ?_
      rotate_left 1
      · (intro w hSw; (try dsimp only at hSw); go_simp; try with_reducible rfl)
      try simp only [Act.put, List.setIfInBounds_toArray, List.set_cons_zero, List.set_cons_succ]
      refine wpAnyH_take (i := 17) (v := ?_) (by simp only [List.getElem?_toArray, List.getElem?_cons_succ, List.getElem?_cons_zero]; rfl) (by kernel_rfl) (by kernel_rfl) (by kernel_rfl) (fun _ _ _ h => h) (Or.inl ⟨by rfl, ?_⟩) (by assumption) ?_
      rotate_left 1
      · (intro w hSw; (try dsimp only at hSw); go_simp; try with_reducible rfl)
      try simp only [Act.put, List.setIfInBounds_toArray, List.set_cons_zero, List.set_cons_succ]
      refine wpAnyH_take (i := 18) (v := ?_) (by simp only [List.getElem?_toArray, List.getElem?_cons_succ, List.getElem?_cons_zero]; rfl) (by kernel_rfl) (by kernel_rfl) (by kernel_rfl) (fun _ _ _ h => h) (Or.inl ⟨by rfl, ?_⟩) (by assumption) ?_
      rotate_left 1
      · (intro w hSw; (try dsimp only at hSw); go_simp; try with_reducible rfl)
      try simp only [Act.put, List.setIfInBounds_toArray, List.set_cons_zero, List.set_cons_succ]
      have E1 := hide (BX.out.trans (D1.out.mono BX.out.size))
      have NL := hide (show v.fs.length = n1 ∧ v.is.length = n2 from HLN.out)
      have SM := hide (same_pv v v Q1 Q2 A1 A2 v.fs.length q1 v.is.length q2 n1 c1 n2 c2 _ _ _ _ w13.heap.size w13.heap.size _ _ w16 (OR.out.kp (Kp.of_below (gs := []) D1.out) (by simp)).fis (HF.out.below E1.out) (RwAt.of_own (own_bel OI.out D1.out)) (RwAt.below HI.out E1.out) (by rw [NL.out.1]; omega) (by omega) (by rw [NL.out.2]; omega) (by omega) (fun f hf => Nat.le_trans (HLS.out f hf) (by decide)) (fun f hf => Nat.le_trans (HLS.out f hf) (by decide)))
      rw [decide_eq_true (show v = v from rfl)] at SM
      refine wpAnyH_ready (rs := [19]) (by kernel_rfl) (by simp) ?_
      refine AllReadyH.cons (by simp only [List.getElem?_toArray, List.getElem?_cons_succ, List.getElem?_cons_zero]; rfl) (fun K hK => ?_) ?_
      rotate_left 1
      · exact AllReadyH.nil
      go_simp
      refine SM.out.mono ?_; rintro r w17 ⟨rfl, hb⟩; have D2 := hide (D1.out.trans (hb.mono D1.out.size)); clear hb
      refine hK.out _ _ ?_ (fun hHeld2 => ?_)
      · ((try dsimp only) <;> (exact CPP.out _ D2.out))
      clear hHeld
      have hHeld := hHeld2
      clear hHeld2 hK K
      try simp only [Act.put, List.setIfInBounds_toArray, List.set_cons_zero, List.set_cons_succ]
      refine wpAnyH_take (i := 20) (v := ?_) (by simp only [List.getElem?_toArray, List.getElem?_cons_succ, List.getElem?_cons_zero]; rfl) (by kernel_rfl) (by kernel_rfl) (by kernel_rfl) (fun _ _ _ h => h) (Or.inl ⟨by rfl, ?_⟩) (by assumption) ?_
      rotate_left 1
      · (intro w hSw; (try dsimp only at hSw); go_simp; try with_reducible rfl)
      try simp only [Act.put, List.setIfInBounds_toArray, List.set_cons_zero, List.set_cons_succ]
      refine wpAnyH_take (i := 21) (v := ?_) (by simp only [List.getElem?_toArray, List.getElem?_cons_succ, List.getElem?_cons_zero]; rfl) (by kernel_rfl) (by kernel_rfl) (by kernel_rfl) (fun _ _ _ h => h) (Or.inl ⟨by rfl, ?_⟩) (by assumption) ?_
      rotate_left 1
      · (intro w hSw; (try dsimp only at hSw); go_simp; try with_reducible rfl)
      try simp only [Act.put, List.setIfInBounds_toArray, List.set_cons_zero, List.set_cons_succ]
      refine wpAnyH_done (by kernel_rfl) ?_ _
      refine NoPanic.normal ?_
      have E2 := hide (BX.out.trans (D2.out.mono BX.out.size))
      clear hHeld heq hce
      go_wp2_with fail
      go_ret
      exact ⟨rfl, E2.out⟩
    · obtain rfl : r = .returned (.tuple #[.slice none 0 0, .int .i64 v.ck]) := by
        rcases EA.out with ⟨h, -⟩ | ⟨-, h⟩
        · exact absurd h hck
        · exact h
      obtain ⟨ck, hcke⟩ : ∃ c, c = v.ck := ⟨_, rfl⟩
      have CKE := hide (show checkP v.e v.c v.i v.p v.x v.fs v.is = ck from hcke.symm)
      rw [← hcke] at hck ⊢
      clear hcke EA
      rw [CKE.out] at RC
      have y0 := X2.out.cell 0
      have y1 := X2.out.cell 1
      have y2 := X2.out.cell 2
      have y3 := X2.out.cell 3
      have y4 := X2.out.cell 4
      have y5 := X2.out.cell 5
      have y6 := X2.out.cell 6
      simp only [List.getElem?_toArray, List.getElem?_cons_succ, List.getElem?_cons_zero] at y0 y1 y2 y3 y4 y5 y6
      go_wp2_with fail
      clear y0 y1 y2 y3 y4 y5 y6
      refine RC.out.mono ?_
      rintro r w7 ⟨rfl, hb⟩
      replace X2 := hide (X2.out.below hb)
      replace X5 := hide (X5.out.below hb)
      replace BW := hide (BW.out.trans (hb.mono BW.out.size))
      replace F4 := hide (F4.out.below hb)
      replace I4 := hide (RwAt.below I4.out hb)

      clear hb RC
      go_wp2_with fail
      have CPP := hide (fun (w' : World) (hb : Below w7.heap.size w7 w') => show (w'.cell? ⟨g2, 0, none⟩ = some (.int .i64 v.e) ∧ w'.cell? ⟨g2, 1, none⟩ = some (.int .i64 v.c) ∧ w'.cell? ⟨g2, 2, none⟩ = some (.int .i64 v.i) ∧ w'.cell? ⟨g2, 3, none⟩ = some (.int .i64 v.p) ∧ w'.cell? ⟨g2, 4, none⟩ = some (.int .i64 v.x) ∧ w'.cell? ⟨g2, 5, none⟩ = some (.slice A1 n1 c1) ∧ w'.cell? ⟨g2, 6, none⟩ = some (.slice A2 n2 c2)) ∧ (w'.cell? ⟨g5, 0, none⟩ = some (.int .i64 v.e) ∧ w'.cell? ⟨g5, 1, none⟩ = some (.int .i64 v.c) ∧ w'.cell? ⟨g5, 2, none⟩ = some (.int .i64 v.i) ∧ w'.cell? ⟨g5, 3, none⟩ = some (.int .i64 v.p) ∧ w'.cell? ⟨g5, 4, none⟩ = some (.int .i64 v.x) ∧ w'.cell? ⟨g5, 5, none⟩ = some (.slice B1 n1 d1) ∧ w'.cell? ⟨g5, 6, none⟩ = some (.slice B2 n2 d2)) from ⟨⟨(X2.out.below hb).cell 0, (X2.out.below hb).cell 1, (X2.out.below hb).cell 2, (X2.out.below hb).cell 3, (X2.out.below hb).cell 4, (X2.out.below hb).cell 5, (X2.out.below hb).cell 6⟩, ⟨(X5.out.below hb).cell 0, (X5.out.below hb).cell 1, (X5.out.below hb).cell 2, (X5.out.below hb).cell 3, (X5.out.below hb).cell 4, (X5.out.below hb).cell 5, (X5.out.below hb).cell 6⟩⟩)
      have FI := hide (fun (w' : World) (hb : Below w7.heap.size w7 w') => show FisAt w3.heap.size w3.heap.size w' B1 n1 v.fs ∧ IntsAt w3.heap.size w3.heap.size w' B2 n2 v.is ∧ FisAt 0 w.heap.size w' A1 n1 v.fs ∧ IntsAt 0 w.heap.size w' A2 n2 v.is ∧ SpanAt w' from ⟨F4.out.below hb, RwAt.below I4.out hb, HF.out.below (BW.out.trans (hb.mono BW.out.size)), RwAt.below HI.out (BW.out.trans (hb.mono BW.out.size)), SP.out.bel (BW.out.trans (hb.mono BW.out.size))⟩)
      have s0 := CPP.out _ (Below.refl _ _).drew
      refine wp_region_noPanic ?_
      refine wp_region_held_drew (S := (fun w' => (w'.cell? ⟨g2, 0, none⟩ = some (.int .i64 v.e) ∧ w'.cell? ⟨g2, 1, none⟩ = some (.int .i64 v.c) ∧ w'.cell? ⟨g2, 2, none⟩ = some (.int .i64 v.i) ∧ w'.cell? ⟨g2, 3, none⟩ = some (.int .i64 v.p) ∧ w'.cell? ⟨g2, 4, none⟩ = some (.int .i64 v.x) ∧ w'.cell? ⟨g2, 5, none⟩ = some (.slice A1 n1 c1) ∧ w'.cell? ⟨g2, 6, none⟩ = some (.slice A2 n2 c2)) ∧ (w'.cell? ⟨g5, 0, none⟩ = some (.int .i64 v.e) ∧ w'.cell? ⟨g5, 1, none⟩ = some (.int .i64 v.c) ∧ w'.cell? ⟨g5, 2, none⟩ = some (.int .i64 v.i) ∧ w'.cell? ⟨g5, 3, none⟩ = some (.int .i64 v.p) ∧ w'.cell? ⟨g5, 4, none⟩ = some (.int .i64 v.x) ∧ w'.cell? ⟨g5, 5, none⟩ = some (.slice B1 n1 d1) ∧ w'.cell? ⟨g5, 6, none⟩ = some (.slice B2 n2 d2)))) (by kernel_rfl) ?_ (fun hHeld => ?_)
      · ((try dsimp only) <;> (first | trivial | assumption | go_keep))
      clear s0
      have D0 := hide ((Below.refl w7.heap.size w7).drew)
      have hnn : (ck != ck) = false := bne_self_eq_false _
      refine wpAnyH_take (i := 0) (v := ?_) (by simp only [List.getElem?_toArray, List.getElem?_cons_succ, List.getElem?_cons_zero]; rfl) (by kernel_rfl) (by kernel_rfl) (by kernel_rfl) (fun _ _ _ h => h) (Or.inl ⟨by rfl, ?_⟩) (by assumption) ?_
      rotate_left 1
      · (intro w hSw; (try dsimp only at hSw); go_simp; try with_reducible rfl)
      try simp only [Act.put, List.setIfInBounds_toArray, List.set_cons_zero, List.set_cons_succ]
      refine wpAnyH_take (i := 1) (v := ?_) (by simp only [List.getElem?_toArray, List.getElem?_cons_succ, List.getElem?_cons_zero]; rfl) (by kernel_rfl) (by kernel_rfl) (by kernel_rfl) (fun _ _ _ h => h) (Or.inl ⟨by rfl, ?_⟩) (by assumption) ?_
      rotate_left 1
      · (intro w hSw; (try dsimp only at hSw); go_simp; try with_reducible rfl)
      try simp only [Act.put, List.setIfInBounds_toArray, List.set_cons_zero, List.set_cons_succ]
      refine wpAnyH_take (i := 2) (v := ?_) (by simp only [List.getElem?_toArray, List.getElem?_cons_succ, List.getElem?_cons_zero]; rfl) (by kernel_rfl) (by kernel_rfl) (by kernel_rfl) (fun _ _ _ h => h) (Or.inl ⟨by rfl, ?_⟩) (by assumption) ?_
      rotate_left 1
      · (intro w hSw; (try dsimp only at hSw); go_simp; try with_reducible rfl)
      try simp only [Act.put, List.setIfInBounds_toArray, List.set_cons_zero, List.set_cons_succ]
      try simp only [hnn]
      refine wpAnyH_take (i := 3) (v := ?_) (by simp only [List.getElem?_toArray, List.getElem?_cons_succ, List.getElem?_cons_zero]; rfl) (by kernel_rfl) (by kernel_rfl) (by kernel_rfl) (fun _ _ _ h => h) (Or.inl ⟨by rfl, ?_⟩) (by assumption) ?_
      rotate_left 1
      · (intro w hSw; (try dsimp only at hSw); go_simp; try with_reducible rfl)
      try simp only [Act.put, List.setIfInBounds_toArray, List.set_cons_zero, List.set_cons_succ]
      refine wpAnyH_take (i := 4) (v := ?_) (by simp only [List.getElem?_toArray, List.getElem?_cons_succ, List.getElem?_cons_zero]; rfl) (by kernel_rfl) (by kernel_rfl) (by kernel_rfl) (fun _ _ _ h => h) (Or.inl ⟨by rfl, ?_⟩) (by assumption) ?_
      rotate_left 1
      · (intro w hSw; (try dsimp only at hSw); go_simp; try with_reducible rfl)
      try simp only [Act.put, List.setIfInBounds_toArray, List.set_cons_zero, List.set_cons_succ]
      refine wpAnyH_take (i := 6) (v := ?_) (by simp only [List.getElem?_toArray, List.getElem?_cons_succ, List.getElem?_cons_zero]; rfl) (by kernel_rfl) (by kernel_rfl) (by kernel_rfl) (fun _ _ _ h => h) (Or.inl ⟨by rfl, ?_⟩) (by assumption) ?_
      rotate_left 1
      · (intro w hSw; (try dsimp only at hSw); go_simp; try with_reducible rfl)
      try simp only [Act.put, List.setIfInBounds_toArray, List.set_cons_zero, List.set_cons_succ]
      refine wpAnyH_ready (rs := [5]) (by kernel_rfl) (by simp) ?_
      refine AllReadyH.cons (by simp only [List.getElem?_toArray, List.getElem?_cons_succ, List.getElem?_cons_zero]; rfl) (fun K hK => ?_) ?_
      rotate_left 1
      · exact AllReadyH.nil
      go_simp
      refine (check_any v.e v.c v.i v.p v.x B1 B2 n1 d1 n2 d2 _ _ _ _ v.fs v.is w7.drew (FI.out _ D0.out).2.2.2.2 (FI.out _ D0.out).1 (FI.out _ D0.out).2.1 (by omega) (by omega) (by omega) H64.out).mono ?_; rintro r w8 ⟨rfl, hb⟩; rw [show checkP v.e v.c v.i v.p v.x v.fs v.is = ck from CKE.out]; have D1 := hide (D0.out.trans (hb.mono D0.out.size)); clear hb
      refine hK.out _ _ ?_ (fun hHeld2 => ?_)
      · ((try dsimp only) <;> (exact CPP.out _ D1.out))
      clear hHeld
      have hHeld := hHeld2
      clear hHeld2 hK K
      try simp only [Act.put, List.setIfInBounds_toArray, List.set_cons_zero, List.set_cons_succ]
      refine wpAnyH_take (i := 7) (v := ?_) (by simp only [List.getElem?_toArray, List.getElem?_cons_succ, List.getElem?_cons_zero]; rfl) (by kernel_rfl) (by kernel_rfl) (by kernel_rfl) (fun _ _ _ h => h) (Or.inl ⟨by rfl, ?_⟩) (by assumption) ?_
      rotate_left 1
      · (intro w hSw; (try dsimp only at hSw); go_simp; try with_reducible rfl)
      try simp only [Act.put, List.setIfInBounds_toArray, List.set_cons_zero, List.set_cons_succ]
      try simp only [hnn]
      refine wpAnyH_take (i := 8) (v := ?_) (by simp only [List.getElem?_toArray, List.getElem?_cons_succ, List.getElem?_cons_zero]; rfl) (by kernel_rfl) (by kernel_rfl) (by kernel_rfl) (fun _ _ _ h => h) (Or.inl ⟨by rfl, ?_⟩) (by assumption) ?_
      rotate_left 1
      · (intro w hSw; (try dsimp only at hSw); go_simp; try with_reducible rfl)
      try simp only [Act.put, List.setIfInBounds_toArray, List.set_cons_zero, List.set_cons_succ]
      refine wpAnyH_take (i := 9) (v := ?_) (by simp only [List.getElem?_toArray, List.getElem?_cons_succ, List.getElem?_cons_zero]; rfl) (by kernel_rfl) (by kernel_rfl) (by kernel_rfl) (fun _ _ _ h => h) (Or.inl ⟨by rfl, ?_⟩) (by assumption) ?_
      rotate_left 1
      · (intro w hSw; (try dsimp only at hSw); go_simp; try with_reducible rfl)
      try simp only [Act.put, List.setIfInBounds_toArray, List.set_cons_zero, List.set_cons_succ]
      refine wpAnyH_take (i := 10) (v := ?_) (by simp only [List.getElem?_toArray, List.getElem?_cons_succ, List.getElem?_cons_zero]; rfl) (by kernel_rfl) (by kernel_rfl) (by kernel_rfl) (fun _ _ _ h => h) (Or.inl ⟨by rfl, ?_⟩) (by assumption) ?_
      rotate_left 1
      · (intro w hSw; (try dsimp only at hSw); go_simp; try with_reducible rfl)
      try simp only [Act.put, List.setIfInBounds_toArray, List.set_cons_zero, List.set_cons_succ]
      refine wpAnyH_take (i := 12) (v := ?_) (by simp only [List.getElem?_toArray, List.getElem?_cons_succ, List.getElem?_cons_zero]; rfl) (by kernel_rfl) (by kernel_rfl) (by kernel_rfl) (fun _ _ _ h => h) (Or.inl ⟨by rfl, ?_⟩) (by assumption) ?_
      rotate_left 1
      · (intro w hSw; (try dsimp only at hSw); go_simp; try with_reducible rfl)
      try simp only [Act.put, List.setIfInBounds_toArray, List.set_cons_zero, List.set_cons_succ]
      refine wpAnyH_ready (rs := [11]) (by kernel_rfl) (by simp) ?_
      refine AllReadyH.cons (by simp only [List.getElem?_toArray, List.getElem?_cons_succ, List.getElem?_cons_zero]; rfl) (fun K hK => ?_) ?_
      rotate_left 1
      · exact AllReadyH.nil
      go_simp
      refine (size_any v.e v.c v.i v.p v.x B1 B2 n1 d1 n2 d2 _ _ v.fs w8 (FI.out _ D1.out).1 (by omega) (by omega) (by omega)).mono ?_; rintro r w9 ⟨rfl, hb⟩; have D2 := hide (D1.out.trans (hb.mono D1.out.size)); clear hb
      refine hK.out _ _ ?_ (fun hHeld2 => ?_)
      · ((try dsimp only) <;> (exact CPP.out _ D2.out))
      clear hHeld
      have hHeld := hHeld2
      clear hHeld2 hK K
      try simp only [Act.put, List.setIfInBounds_toArray, List.set_cons_zero, List.set_cons_succ]
      refine wpAnyH_ready (rs := [13]) (by kernel_rfl) (by simp) ?_
      refine AllReadyH.cons (by simp only [List.getElem?_toArray, List.getElem?_cons_succ, List.getElem?_cons_zero]; rfl) (fun K hK => ?_) ?_
      rotate_left 1
      · exact AllReadyH.nil
      go_simp
      refine (rsize_any v.e v.c v.i v.p v.x A1 A2 n1 c1 n2 c2 _ _ v.fs w9 (FI.out _ D2.out).2.2.1 (by omega) (by omega) (by omega)).mono ?_; rintro r w10 ⟨rfl, hb⟩; have D3 := hide (D2.out.trans (hb.mono D2.out.size)); clear hb
      refine hK.out _ _ ?_ (fun hHeld2 => ?_)
      · ((try dsimp only) <;> (exact CPP.out _ D3.out))
      clear hHeld
      have hHeld := hHeld2
      clear hHeld2 hK K
      try simp only [Act.put, List.setIfInBounds_toArray, List.set_cons_zero, List.set_cons_succ]
      refine wpAnyH_take (i := 14) (v := ?_) (by simp only [List.getElem?_toArray, List.getElem?_cons_succ, List.getElem?_cons_zero]; rfl) (by kernel_rfl) (by kernel_rfl) (by kernel_rfl) (fun _ _ _ h => h) (Or.inl ⟨by rfl, ?_⟩) (by assumption) ?_
      rotate_left 1
      · (intro w hSw; (try dsimp only at hSw); go_simp; try with_reducible rfl)
      try simp only [Act.put, List.setIfInBounds_toArray, List.set_cons_zero, List.set_cons_succ]
      try simp only [bne_self_eq_false]
      refine wpAnyH_take (i := 15) (v := ?_) (by simp only [List.getElem?_toArray, List.getElem?_cons_succ, List.getElem?_cons_zero]; rfl) (by kernel_rfl) (by kernel_rfl) (by kernel_rfl) (fun _ _ _ h => h) (Or.inl ⟨by rfl, ?_⟩) (by assumption) ?_
      rotate_left 1
      · (intro w hSw; (try dsimp only at hSw); go_simp; try with_reducible rfl)
      try simp only [Act.put, List.setIfInBounds_toArray, List.set_cons_zero, List.set_cons_succ]
      refine wpAnyH_take (i := 16) (v := ?_) (by simp only [List.getElem?_toArray, List.getElem?_cons_succ, List.getElem?_cons_zero]; rfl) (by kernel_rfl) (by kernel_rfl) (by kernel_rfl) (fun _ _ _ h => h) (Or.inl ⟨by rfl, ?_⟩) (by assumption) ?_
      rotate_left 1
      · (intro w hSw; (try dsimp only at hSw); go_simp; try with_reducible rfl)
      try simp only [Act.put, List.setIfInBounds_toArray, List.set_cons_zero, List.set_cons_succ]
      refine wpAnyH_take (i := 17) (v := ?_) (by simp only [List.getElem?_toArray, List.getElem?_cons_succ, List.getElem?_cons_zero]; rfl) (by kernel_rfl) (by kernel_rfl) (by kernel_rfl) (fun _ _ _ h => h) (Or.inl ⟨by rfl, ?_⟩) (by assumption) ?_
      rotate_left 1
      · (intro w hSw; (try dsimp only at hSw); go_simp; try with_reducible rfl)
      try simp only [Act.put, List.setIfInBounds_toArray, List.set_cons_zero, List.set_cons_succ]
      refine wpAnyH_take (i := 19) (v := ?_) (by simp only [List.getElem?_toArray, List.getElem?_cons_succ, List.getElem?_cons_zero]; rfl) (by kernel_rfl) (by kernel_rfl) (by kernel_rfl) (fun _ _ _ h => h) (Or.inl ⟨by rfl, ?_⟩) (by assumption) ?_
      rotate_left 1
      · (intro w hSw; (try dsimp only at hSw); go_simp; try with_reducible rfl)
      try simp only [Act.put, List.setIfInBounds_toArray, List.set_cons_zero, List.set_cons_succ]
      refine wpAnyH_ready (rs := [18]) (by kernel_rfl) (by simp) ?_
      refine AllReadyH.cons (by simp only [List.getElem?_toArray, List.getElem?_cons_succ, List.getElem?_cons_zero]; rfl) (fun K hK => ?_) ?_
      rotate_left 1
      · exact AllReadyH.nil
      go_simp
      refine (sblocks_any v.e v.c v.i v.p v.x B1 B2 n1 d1 n2 d2 _ _ v.fs w10 (FI.out _ D3.out).1 (by omega) (by omega) (by omega)).mono ?_; rintro r w11 ⟨rfl, hb⟩; have D4 := hide (D3.out.trans (hb.mono D3.out.size)); clear hb
      refine hK.out _ _ ?_ (fun hHeld2 => ?_)
      · ((try dsimp only) <;> (exact CPP.out _ D4.out))
      clear hHeld
      have hHeld := hHeld2
      clear hHeld2 hK K
      try simp only [Act.put, List.setIfInBounds_toArray, List.set_cons_zero, List.set_cons_succ]
      refine wpAnyH_ready (rs := [20]) (by kernel_rfl) (by simp) ?_
      refine AllReadyH.cons (by simp only [List.getElem?_toArray, List.getElem?_cons_succ, List.getElem?_cons_zero]; rfl) (fun K hK => ?_) ?_
      rotate_left 1
      · exact AllReadyH.nil
      go_simp
      refine (rblocks_any v.e v.c v.i v.p v.x A1 A2 n1 c1 n2 c2 _ _ v.fs w11 (FI.out _ D4.out).2.2.1 (by omega) (by omega) (by omega)).mono ?_; rintro r w12 ⟨rfl, hb⟩; have D5 := hide (D4.out.trans (hb.mono D4.out.size)); clear hb
      refine hK.out _ _ ?_ (fun hHeld2 => ?_)
      · ((try dsimp only) <;> (exact CPP.out _ D5.out))
      clear hHeld
      have hHeld := hHeld2
      clear hHeld2 hK K
      try simp only [Act.put, List.setIfInBounds_toArray, List.set_cons_zero, List.set_cons_succ]
      refine wpAnyH_take (i := 21) (v := ?_) (by simp only [List.getElem?_toArray, List.getElem?_cons_succ, List.getElem?_cons_zero]; rfl) (by kernel_rfl) (by kernel_rfl) (by kernel_rfl) (fun _ _ _ h => h) (Or.inl ⟨by rfl, ?_⟩) (by assumption) ?_
      rotate_left 1
      · (intro w hSw; (try dsimp only at hSw); go_simp; try with_reducible rfl)
      try simp only [Act.put, List.setIfInBounds_toArray, List.set_cons_zero, List.set_cons_succ]
      try simp only [bne_self_eq_false]
      refine wpAnyH_take (i := 22) (v := ?_) (by simp only [List.getElem?_toArray, List.getElem?_cons_succ, List.getElem?_cons_zero]; rfl) (by kernel_rfl) (by kernel_rfl) (by kernel_rfl) (fun _ _ _ h => h) (Or.inl ⟨by rfl, ?_⟩) (by assumption) ?_
      rotate_left 1
      · (intro w hSw; (try dsimp only at hSw); go_simp; try with_reducible rfl)
      try simp only [Act.put, List.setIfInBounds_toArray, List.set_cons_zero, List.set_cons_succ]
      refine wpAnyH_take (i := 23) (v := ?_) (by simp only [List.getElem?_toArray, List.getElem?_cons_succ, List.getElem?_cons_zero]; rfl) (by kernel_rfl) (by kernel_rfl) (by kernel_rfl) (fun _ _ _ h => h) (Or.inl ⟨by rfl, ?_⟩) (by assumption) ?_
      rotate_left 1
      · (intro w hSw; (try dsimp only at hSw); go_simp; try with_reducible rfl)
      try simp only [Act.put, List.setIfInBounds_toArray, List.set_cons_zero, List.set_cons_succ]
      refine wpAnyH_take (i := 24) (v := ?_) (by simp only [List.getElem?_toArray, List.getElem?_cons_succ, List.getElem?_cons_zero]; rfl) (by kernel_rfl) (by kernel_rfl) (by kernel_rfl) (fun _ _ _ h => h) (Or.inl ⟨by rfl, ?_⟩) (by assumption) ?_
      rotate_left 1
      · (intro w hSw; (try dsimp only at hSw); go_simp; try with_reducible rfl)
      try simp only [Act.put, List.setIfInBounds_toArray, List.set_cons_zero, List.set_cons_succ]
      refine wpAnyH_take (i := 25) (v := ?_) (by simp only [List.getElem?_toArray, List.getElem?_cons_succ, List.getElem?_cons_zero]; rfl) (by kernel_rfl) (by kernel_rfl) (by kernel_rfl) (fun _ _ _ h => h) (Or.inl ⟨by rfl, ?_⟩) (by assumption) ?_
      rotate_left 1
      · (intro w hSw; (try dsimp only at hSw); go_simp; try with_reducible rfl)
      try simp only [Act.put, List.setIfInBounds_toArray, List.set_cons_zero, List.set_cons_succ]
      refine wpAnyH_ready (rs := [26]) (by kernel_rfl) (by simp) ?_
      refine AllReadyH.cons (by simp only [List.getElem?_toArray, List.getElem?_cons_succ, List.getElem?_cons_zero]; rfl) (fun K hK => ?_) ?_
      rotate_left 1
      · exact AllReadyH.nil
      go_simp
      refine (same_pv v v B1 B2 A1 A2 n1 d1 n2 d2 n1 c1 n2 c2 _ _ _ _ _ _ _ _ w12 (FI.out _ D5.out).1 (FI.out _ D5.out).2.2.1 (FI.out _ D5.out).2.1 (FI.out _ D5.out).2.2.2.1 (by omega) (by omega) (by omega) (by omega) (fun f hf => Nat.le_trans (HLS.out f hf) (by decide)) (fun f hf => Nat.le_trans (HLS.out f hf) (by decide))).mono ?_; rintro r w13 ⟨rfl, hb⟩; rw [decide_eq_true (show v = v from rfl)]; have D6 := hide (D5.out.trans (hb.mono D5.out.size)); clear hb
      refine hK.out _ _ ?_ (fun hHeld2 => ?_)
      · ((try dsimp only) <;> (exact CPP.out _ D6.out))
      clear hHeld
      have hHeld := hHeld2
      clear hHeld2 hK K
      try simp only [Act.put, List.setIfInBounds_toArray, List.set_cons_zero, List.set_cons_succ]
      refine wpAnyH_take (i := 27) (v := ?_) (by simp only [List.getElem?_toArray, List.getElem?_cons_succ, List.getElem?_cons_zero]; rfl) (by kernel_rfl) (by kernel_rfl) (by kernel_rfl) (fun _ _ _ h => h) (Or.inl ⟨by rfl, ?_⟩) (by assumption) ?_
      rotate_left 1
      · (intro w hSw; (try dsimp only at hSw); go_simp; try with_reducible rfl)
      try simp only [Act.put, List.setIfInBounds_toArray, List.set_cons_zero, List.set_cons_succ]
      refine wpAnyH_take (i := 28) (v := ?_) (by simp only [List.getElem?_toArray, List.getElem?_cons_succ, List.getElem?_cons_zero]; rfl) (by kernel_rfl) (by kernel_rfl) (by kernel_rfl) (fun _ _ _ h => h) (Or.inl ⟨by rfl, ?_⟩) (by assumption) ?_
      rotate_left 1
      · (intro w hSw; (try dsimp only at hSw); go_simp; try with_reducible rfl)
      try simp only [Act.put, List.setIfInBounds_toArray, List.set_cons_zero, List.set_cons_succ]
      refine wpAnyH_done (by kernel_rfl) ?_ _
      refine NoPanic.normal ?_
      clear hHeld hnn CPP
      have hckn : (ck != 0) = true := bne_iff_ne.2 hck
      have BX := hide (BW.out.trans (D6.out.mono BW.out.size))
      go_wp2_with fail
      go_ret
      exact ⟨rfl, BX.out⟩
end Go.Proofs.YtbamdibpkkponaaDoor
