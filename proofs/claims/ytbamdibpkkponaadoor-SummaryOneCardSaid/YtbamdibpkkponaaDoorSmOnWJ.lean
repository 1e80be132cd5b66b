import Derived.Test.YtbamdibpkkponaaDoorJb15
set_option linter.unusedVariables false
set_option linter.unusedSimpArgs false
/- The walk of SummaryOne (printed by gen_smone.py). -/
namespace Go.Proofs.YtbamdibpkkponaaDoor
open Go.RowKit
attribute [local go_sem ↓] Go.wp_at_zero Go.wp_at_succ

set_option maxRecDepth 100000 in
theorem u32s_arg {w : World} {v : Value} (h : Arg Tryd.prog w 49 v) : ∃ s0 s1 : Nat, v = .agg #[.int .u32 (s0 : Int), .int .u32 (s1 : Int)] ∧ s0 < 4294967296 ∧ s1 < 4294967296 := by
  have hcu : Tryd.prog.cellsOf 26 = 1 := by kernel_rfl
  have hc2 : Tryd.prog.cellsOf 49 = 2 := by kernel_rfl
  obtain ⟨⟨l⟩, rfl, hh⟩ := arg_agg h (.inr ⟨_, _, Tryd.underlying49⟩)
  have hl := (rd_array Tryd.underlying49 hh).1
  rw [hc2] at hl
  match l, hl with
  | [c0, c1], _ =>
    obtain ⟨a, rfl, ha⟩ := rd_arr_int Tryd.underlying49 hh hcu Tryd.underlying26 0 (by omega) rfl
    obtain ⟨b, rfl, hb⟩ := rd_arr_int Tryd.underlying49 hh hcu Tryd.underlying26 1 (by omega) rfl
    obtain ⟨s0, e0, h0⟩ := wf_bd_u32 ha
    obtain ⟨s1, e1, h1⟩ := wf_bd_u32 hb
    subst e0 e1
    exact ⟨s0, s1, rfl, h0, h1⟩
theorem EncAns.ex {v : PV} {s base : Nat} {r : Ending} {w' : World} (h : EncAns v s base r w') : ∃ x y, r = .returned (.tuple #[x, y]) := by
  rcases h with ⟨-, A, k, rfl, -⟩ | ⟨-, rfl⟩
  · exact ⟨_, _, rfl⟩
  · exact ⟨_, _, rfl⟩
set_option maxRecDepth 100000 in
set_option maxHeartbeats 4000000 in
theorem one_all (v u : PV) (q0 q1 : Nat) (hq0 : q0 < 4294967296) (hq1 : q1 < 4294967296) (A1 A2 G1 G2 : Option Addr) (n1 c1 n2 c2 m1 e1 m2 e2 : Nat) (w : World) (sp : SpanAt w) (hf : FisAt 0 w.heap.size w A1 n1 v.fs) (hi : IntsAt 0 w.heap.size w A2 n2 v.is)
    (hf' : FisAt 0 w.heap.size w G1 m1 u.fs) (hi' : IntsAt 0 w.heap.size w G2 m2 u.is)
    (hn1 : n1 ≤ 9223372036854775807) (hn2 : n2 ≤ 9223372036854775807) (hl : ∀ f ∈ v.fs, (∀ x ∈ f.ls, I64 x) ∧ f.ls.length ≤ 9223372036854775807) (hm1 : m1 ≤ 9223372036854775807) (hm2 : m2 ≤ 9223372036854775807) (hl' : ∀ f ∈ u.fs, (∀ x ∈ f.ls, I64 x) ∧ f.ls.length ≤ 9223372036854775807) :
    Calls Tryd.prog 8 #[.agg (partC v.e v.c v.i v.p v.x A1 n1 c1 A2 n2 c2), .agg (partC u.e u.c u.i u.p u.x G1 m1 e1 G2 m2 e2), .agg #[.int .u32 (q0 : Int), .int .u32 (q1 : Int)]] w fun r w' => r = .returned (.bool true) ∧ Below w.heap.size w w' := by
  have HF := hide hf
  have HI := hide hi
  have HG := hide hf'
  have HJ := hide hi'
  have SP := hide sp
  have HL := hide hl
  have HL' := hide hl'
  have H64 := hide (fun f hf => (hl f hf).1)
  have H64' := hide (fun f hf => (hl' f hf).1)
  clear hf hi sp hl hf' hi' hl'
  unfold partC
  go_enter Tryd.func8, Tryd.ntmps8
  go_upto_region 1 with fail
  obtain ⟨w1, hw⟩ : ∃ W, W = ((w.alloc (.cells #[.int .i64 v.e, .int .i64 v.c, .int .i64 v.i, .int .i64 v.p, .int .i64 v.x, .slice A1 n1 c1, .slice A2 n2 c2] 25)).alloc (.cells #[.int .i64 u.e, .int .i64 u.c, .int .i64 u.i, .int .i64 u.p, .int .i64 u.x, .slice G1 m1 e1, .slice G2 m2 e2] 25)).alloc (.cells #[.int .u32 (q0 : Int), .int .u32 (q1 : Int)] 49) := ⟨_, rfl⟩
  have X3 : Hid (Blk w1 w.heap.size 25 #[.int .i64 v.e, .int .i64 v.c, .int .i64 v.i, .int .i64 v.p, .int .i64 v.x, .slice A1 n1 c1, .slice A2 n2 c2]) := hide (by rw [hw]; exact ((Blk.new _ _ _).alloc _).alloc _)
  have X4 : Hid (Blk w1 (w.heap.size + 1) 25 #[.int .i64 u.e, .int .i64 u.c, .int .i64 u.i, .int .i64 u.p, .int .i64 u.x, .slice G1 m1 e1, .slice G2 m2 e2]) := hide (by
    rw [hw]
    have := (Blk.new (w.alloc (.cells #[.int .i64 v.e, .int .i64 v.c, .int .i64 v.i, .int .i64 v.p, .int .i64 v.x, .slice A1 n1 c1, .slice A2 n2 c2] 25)) 25 #[.int .i64 u.e, .int .i64 u.c, .int .i64 u.i, .int .i64 u.p, .int .i64 u.x, .slice G1 m1 e1, .slice G2 m2 e2]).alloc (.cells #[.int .u32 (q0 : Int), .int .u32 (q1 : Int)] 49)
    rwa [World.size_alloc] at this)
  have X5 : Hid (Blk w1 (w.heap.size + 2) 49 #[.int .u32 (q0 : Int), .int .u32 (q1 : Int)]) := hide (by
    rw [hw]
    have := Blk.new ((w.alloc (.cells #[.int .i64 v.e, .int .i64 v.c, .int .i64 v.i, .int .i64 v.p, .int .i64 v.x, .slice A1 n1 c1, .slice A2 n2 c2] 25)).alloc (.cells #[.int .i64 u.e, .int .i64 u.c, .int .i64 u.i, .int .i64 u.p, .int .i64 u.x, .slice G1 m1 e1, .slice G2 m2 e2] 25)) 49 #[.int .u32 (q0 : Int), .int .u32 (q1 : Int)]
    rwa [World.size_alloc, World.size_alloc] at this)
  have B1 : Hid (Below w.heap.size w w1) := hide (by rw [hw]; exact (((Below.refl _ _).alloc (Nat.le_refl _) _).alloc (by simp) _).alloc (by simp; omega) _)
  rw [← hw]
  obtain ⟨g3, hg⟩ : ∃ g, g = w.heap.size := ⟨_, rfl⟩
  rw [← hg] at X3 X4 X5 ⊢
  clear hw hg
  go_wp2_with fail
  refine (awake_any w1 (SP.out.bel B1.out)).mono ?_
  rintro r w2 ⟨rfl, hb⟩
  have BW := B1
  replace X3 := hide (X3.out.below hb)
  replace X4 := hide (X4.out.below hb)
  replace X5 := hide (X5.out.below hb)
  replace BW := hide (BW.out.trans (hb.mono BW.out.size))
  clear hb B1
  have y0 := X3.out.cell 0
  have y1 := X3.out.cell 1
  have y2 := X3.out.cell 2
  have y3 := X3.out.cell 3
  have y4 := X3.out.cell 4
  have y5 := X3.out.cell 5
  have y6 := X3.out.cell 6
  simp only [List.getElem?_toArray, List.getElem?_cons_succ, List.getElem?_cons_zero] at y0 y1 y2 y3 y4 y5 y6
  go_wp2_with fail
  clear y0 y1 y2 y3 y4 y5 y6
  refine (few_any v.e v.c v.i v.p v.x A1 A2 n1 c1 n2 c2 _ _ v.fs w2 (HF.out.below BW.out) hn1 hn2 (fun f hf => (HL.out f hf).2)).mono ?_
  rintro r w3 ⟨⟨b, rfl, hfw⟩, hb⟩
  replace X3 := hide (X3.out.below hb)
  replace X4 := hide (X4.out.below hb)
  replace X5 := hide (X5.out.below hb)
  replace BW := hide (BW.out.trans (hb.mono BW.out.size))

  clear hb
  cases b with
  | false =>
    clear hfw
    go_wp2_with fail
    refine (awake_any w3 (SP.out.bel BW.out)).mono ?_
    rintro r w4 ⟨rfl, hb⟩
    have B4 := hide (BW.out.trans (hb.mono BW.out.size))
    clear hb
    go_wp2_with fail
    go_ret
    exact ⟨rfl, B4.out⟩
  | true =>
    obtain ⟨hn40, hn150, hls150⟩ := hfw rfl
    have HLS := hide (lsN_all (M := 150) (by omega : lsN v.fs ≤ 150))
    have hls2 : lsN v.fs ≤ 150 := by omega
    clear hfw hls150
    have y0 := X4.out.cell 0
    have y1 := X4.out.cell 1
    have y2 := X4.out.cell 2
    have y3 := X4.out.cell 3
    have y4 := X4.out.cell 4
    have y5 := X4.out.cell 5
    have y6 := X4.out.cell 6
    simp only [List.getElem?_toArray, List.getElem?_cons_succ, List.getElem?_cons_zero] at y0 y1 y2 y3 y4 y5 y6
    go_wp2_with fail
    clear y0 y1 y2 y3 y4 y5 y6
    refine (few_any u.e u.c u.i u.p u.x G1 G2 m1 e1 m2 e2 _ _ u.fs w3 (HG.out.below BW.out) hm1 hm2 (fun f hf => (HL'.out f hf).2)).mono ?_
    rintro r w4 ⟨⟨b, rfl, hfw⟩, hb⟩
    replace X3 := hide (X3.out.below hb)
    replace X4 := hide (X4.out.below hb)
    replace X5 := hide (X5.out.below hb)
    replace BW := hide (BW.out.trans (hb.mono BW.out.size))

    clear hb
    cases b with
    | false =>
      clear hfw
      go_wp2_with fail
      refine (awake_any w4 (SP.out.bel BW.out)).mono ?_
      rintro r w4 ⟨rfl, hb⟩
      have B4 := hide (BW.out.trans (hb.mono BW.out.size))
      clear hb
      go_wp2_with fail
      go_ret
      exact ⟨rfl, B4.out⟩
    | true =>
      obtain ⟨hm40, hm150, hls150⟩ := hfw rfl
      have HLS' := hide (lsN_all (M := 150) (by omega : lsN u.fs ≤ 150))
      have hls2' : lsN u.fs ≤ 150 := by omega
      clear hfw hls150
      have CPP := hide (fun (w' : World) (hb : Below w4.heap.size w4 w') => show w'.cell? ⟨g3, 0, none⟩ = some (.int .i64 v.e) ∧ w'.cell? ⟨g3, 1, none⟩ = some (.int .i64 v.c) ∧ w'.cell? ⟨g3, 2, none⟩ = some (.int .i64 v.i) ∧ w'.cell? ⟨g3, 3, none⟩ = some (.int .i64 v.p) ∧ w'.cell? ⟨g3, 4, none⟩ = some (.int .i64 v.x) ∧ w'.cell? ⟨g3, 5, none⟩ = some (.slice A1 n1 c1) ∧ w'.cell? ⟨g3, 6, none⟩ = some (.slice A2 n2 c2) ∧ w'.cell? ⟨g3 + 2, 0, none⟩ = some (.int .u32 (q0 : Int)) from ⟨(X3.out.below hb).cell 0, (X3.out.below hb).cell 1, (X3.out.below hb).cell 2, (X3.out.below hb).cell 3, (X3.out.below hb).cell 4, (X3.out.below hb).cell 5, (X3.out.below hb).cell 6, (X5.out.below hb).cell 0⟩)
      go_wp2_with fail
      have s0 := CPP.out _ (Below.refl _ _).drew
      refine wp_region_noPanic ?_
      refine wp_region_held_drew (S := (fun w' => w'.cell? ⟨g3, 0, none⟩ = some (.int .i64 v.e) ∧ w'.cell? ⟨g3, 1, none⟩ = some (.int .i64 v.c) ∧ w'.cell? ⟨g3, 2, none⟩ = some (.int .i64 v.i) ∧ w'.cell? ⟨g3, 3, none⟩ = some (.int .i64 v.p) ∧ w'.cell? ⟨g3, 4, none⟩ = some (.int .i64 v.x) ∧ w'.cell? ⟨g3, 5, none⟩ = some (.slice A1 n1 c1) ∧ w'.cell? ⟨g3, 6, none⟩ = some (.slice A2 n2 c2) ∧ w'.cell? ⟨g3 + 2, 0, none⟩ = some (.int .u32 (q0 : Int)))) (by kernel_rfl) ?_ (fun hHeld => ?_)
      · ((try dsimp only) <;> (first | trivial | assumption | go_keep))
      clear s0
      have D0 := hide ((Below.refl w4.heap.size w4).drew)
      have E0 := hide (BW.out.trans (D0.out.mono BW.out.size))
      refine wpAnyH_take (i := 0) (v := ?_) (by simp only [List.getElem?_toArray, List.getElem?_cons_succ, List.getElem?_cons_zero]; rfl) (by kernel_rfl) (by kernel_rfl) (by kernel_rfl) (fun _ _ _ h => h) (Or.inl ⟨by rfl, ?_⟩) (by assumption) ?_
      rotate_left 1
      · (intro w hSw; (try dsimp only at hSw); go_simp; try with_reducible rfl)
      try simp only [Act.put, List.setIfInBounds_toArray, List.set_cons_zero, List.set_cons_succ]
      refine wpAnyH_take (i := 2) (v := ?_) (by simp only [List.getElem?_toArray, List.getElem?_cons_succ, List.getElem?_cons_zero]; rfl) (by kernel_rfl) (by kernel_rfl) (by kernel_rfl) (fun _ _ _ h => h) (Or.inl ⟨by rfl, ?_⟩) (by assumption) ?_
      rotate_left 1
      · (intro w hSw; (try dsimp only at hSw); go_simp; try with_reducible rfl)
      try simp only [Act.put, List.setIfInBounds_toArray, List.set_cons_zero, List.set_cons_succ]
      refine wpAnyH_take (i := 3) (v := ?_) (by simp only [List.getElem?_toArray, List.getElem?_cons_succ, List.getElem?_cons_zero]; rfl) (by kernel_rfl) (by kernel_rfl) (by kernel_rfl) (fun _ _ _ h => h) (Or.inl ⟨by rfl, ?_⟩) (by assumption) ?_
      rotate_left 1
      · (intro w hSw; (try dsimp only at hSw); go_simp; try with_reducible rfl)
      try simp only [Act.put, List.setIfInBounds_toArray, List.set_cons_zero, List.set_cons_succ]
      refine wpAnyH_ready (rs := [1]) (by kernel_rfl) (by simp) ?_
      refine AllReadyH.cons (by simp only [List.getElem?_toArray, List.getElem?_cons_succ, List.getElem?_cons_zero]; rfl) (fun K hK => ?_) ?_
      rotate_left 1
      · exact AllReadyH.nil
      go_simp
      refine (own_any v.e v.c v.i v.p v.x A1 A2 n1 c1 n2 c2 _ _ _ _ v.fs v.is w4.drew (HF.out.below E0.out) (RwAt.below HI.out E0.out) (by omega) (by omega) (fun f hf => Nat.le_trans (HLS.out f hf) (by decide))).mono ?_; rintro r wo ⟨B1, d1, B2, d2, rfl, hf2, hi2, hb⟩; have F4 := hide hf2; have I4 := hide hi2; have D1 := hide (D0.out.trans (hb.mono D0.out.size)); clear hf2 hi2 hb
      refine hK.out _ _ ?_ (fun hHeld2 => ?_)
      · ((try dsimp only) <;> (exact CPP.out _ D1.out))
      clear hHeld
      have hHeld := hHeld2
      clear hHeld2 hK K
      try simp only [Act.put, List.setIfInBounds_toArray, List.set_cons_zero, List.set_cons_succ]
      have E1 := hide (BW.out.trans (D1.out.mono BW.out.size))
      refine wpAnyH_ready (rs := [4]) (by kernel_rfl) (by simp) ?_
      refine AllReadyH.cons (by simp only [List.getElem?_toArray, List.getElem?_cons_succ, List.getElem?_cons_zero]; rfl) (fun K hK => ?_) ?_
      rotate_left 1
      · exact AllReadyH.nil
      go_simp
      refine (enc_any v q0 hq0 B1 B2 n1 d1 n2 d2 _ _ _ _ wo (SP.out.bel E1.out) F4.out I4.out (by omega) (by omega) (by omega) H64.out).mono ?_; rintro rea wea ⟨ha, hb⟩; have EA := hide ha; have D2 := hide (D1.out.trans (hb.mono D1.out.size)); have HREa := hide (EncAns.ex ha); obtain ⟨xa, ya, rfl⟩ := HREa.out; clear ha hb HREa
      refine hK.out _ _ ?_ (fun hHeld2 => ?_)
      · ((try dsimp only) <;> (exact CPP.out _ D2.out))
      clear hHeld
      have hHeld := hHeld2
      clear hHeld2 hK K
      try simp only [Act.put, List.setIfInBounds_toArray, List.set_cons_zero, List.set_cons_succ]
      refine wpAnyH_take (i := 5) (v := ?_) (by simp only [List.getElem?_toArray, List.getElem?_cons_succ, List.getElem?_cons_zero]; rfl) (by kernel_rfl) (by kernel_rfl) (by kernel_rfl) (fun _ _ _ h => h) (Or.inl ⟨by rfl, ?_⟩) (by assumption) ?_
      rotate_left 1
      · (intro w hSw; (try dsimp only at hSw); go_simp; try with_reducible rfl)
      try simp only [Act.put, List.setIfInBounds_toArray, List.set_cons_zero, List.set_cons_succ]
      refine wpAnyH_take (i := 6) (v := ?_) (by simp only [List.getElem?_toArray, List.getElem?_cons_succ, List.getElem?_cons_zero]; rfl) (by kernel_rfl) (by kernel_rfl) (by kernel_rfl) (fun _ _ _ h => h) (Or.inl ⟨by rfl, ?_⟩) (by assumption) ?_
      rotate_left 1
      · (intro w hSw; (try dsimp only at hSw); go_simp; try with_reducible rfl)
      try simp only [Act.put, List.setIfInBounds_toArray, List.set_cons_zero, List.set_cons_succ]
      refine wpAnyH_take (i := 7) (v := ?_) (by simp only [List.getElem?_toArray, List.getElem?_cons_succ, List.getElem?_cons_zero]; rfl) (by kernel_rfl) (by kernel_rfl) (by kernel_rfl) (fun _ _ _ h => h) (Or.inl ⟨by rfl, ?_⟩) (by assumption) ?_
      rotate_left 1
      · (intro w hSw; (try dsimp only at hSw); go_simp; try with_reducible rfl)
      try simp only [Act.put, List.setIfInBounds_toArray, List.set_cons_zero, List.set_cons_succ]
      refine wpAnyH_take (i := 8) (v := ?_) (by simp only [List.getElem?_toArray, List.getElem?_cons_succ, List.getElem?_cons_zero]; rfl) (by kernel_rfl) (by kernel_rfl) (by kernel_rfl) (fun _ _ _ h => h) (Or.inl ⟨by rfl, ?_⟩) (by assumption) ?_
      rotate_left 1
      · (intro w hSw; (try dsimp only at hSw); go_simp; try with_reducible rfl)
      try simp only [Act.put, List.setIfInBounds_toArray, List.set_cons_zero, List.set_cons_succ]
      refine wpAnyH_take (i := 9) (v := ?_) (by simp only [List.getElem?_toArray, List.getElem?_cons_succ, List.getElem?_cons_zero]; rfl) (by kernel_rfl) (by kernel_rfl) (by kernel_rfl) (fun _ _ _ h => h) (Or.inl ⟨by rfl, ?_⟩) (by assumption) ?_
      rotate_left 1
      · (intro w hSw; (try dsimp only at hSw); go_simp; try with_reducible rfl)
      try simp only [Act.put, List.setIfInBounds_toArray, List.set_cons_zero, List.set_cons_succ]
      refine wpAnyH_done (by kernel_rfl) ?_ _
      refine NoPanic.normal ?_
      clear hHeld CPP F4 I4 E0 E1 D0
      replace X3 := hide (X3.out.below D2.out)
      replace X4 := hide (X4.out.below D2.out)
      replace X5 := hide (X5.out.below D2.out)
      replace BW := hide (BW.out.trans (D2.out.mono BW.out.size))

      clear D1 D2
      have EAX := hide (show EncAns v q0 0 (.returned (.tuple #[xa, ya])) wea from by
        rcases EA.out with ⟨h, A, k, e, ho⟩ | h
        · exact .inl ⟨h, A, k, e, own_bq ho (Nat.zero_le _)⟩
        · exact .inr h)
      clear EA
      have EA := EAX
      clear EAX
      rcases EA.out with ⟨hckv, Av, kv, hev, hov⟩ | ⟨hckv, hev⟩
      rotate_left
      · injection hev with hev
        simp only [Value.tuple.injEq, Array.mk.injEq, List.cons.injEq, and_true] at hev
        obtain ⟨rfl, rfl⟩ := hev
        have hckn : (v.ck != 0) = true := bne_iff_ne.2 hckv
        clear EA hckv
        have CPP := hide (fun (w' : World) (hb : Below wea.heap.size wea w') => show w'.cell? ⟨g3 + 1, 0, none⟩ = some (.int .i64 u.e) ∧ w'.cell? ⟨g3 + 1, 1, none⟩ = some (.int .i64 u.c) ∧ w'.cell? ⟨g3 + 1, 2, none⟩ = some (.int .i64 u.i) ∧ w'.cell? ⟨g3 + 1, 3, none⟩ = some (.int .i64 u.p) ∧ w'.cell? ⟨g3 + 1, 4, none⟩ = some (.int .i64 u.x) ∧ w'.cell? ⟨g3 + 1, 5, none⟩ = some (.slice G1 m1 e1) ∧ w'.cell? ⟨g3 + 1, 6, none⟩ = some (.slice G2 m2 e2) ∧ w'.cell? ⟨g3 + 2, 1, none⟩ = some (.int .u32 (q1 : Int)) from ⟨(X4.out.below hb).cell 0, (X4.out.below hb).cell 1, (X4.out.below hb).cell 2, (X4.out.below hb).cell 3, (X4.out.below hb).cell 4, (X4.out.below hb).cell 5, (X4.out.below hb).cell 6, (X5.out.below hb).cell 1⟩)
        go_wp2_with fail
        have s0 := CPP.out _ (Below.refl _ _).drew
        refine wp_region_noPanic ?_
        refine wp_region_held_drew (S := (fun w' => w'.cell? ⟨g3 + 1, 0, none⟩ = some (.int .i64 u.e) ∧ w'.cell? ⟨g3 + 1, 1, none⟩ = some (.int .i64 u.c) ∧ w'.cell? ⟨g3 + 1, 2, none⟩ = some (.int .i64 u.i) ∧ w'.cell? ⟨g3 + 1, 3, none⟩ = some (.int .i64 u.p) ∧ w'.cell? ⟨g3 + 1, 4, none⟩ = some (.int .i64 u.x) ∧ w'.cell? ⟨g3 + 1, 5, none⟩ = some (.slice G1 m1 e1) ∧ w'.cell? ⟨g3 + 1, 6, none⟩ = some (.slice G2 m2 e2) ∧ w'.cell? ⟨g3 + 2, 1, none⟩ = some (.int .u32 (q1 : Int)))) (by kernel_rfl) ?_ (fun hHeld => ?_)
        · ((try dsimp only) <;> (first | trivial | assumption | go_keep))
        clear s0
        have D0 := hide ((Below.refl wea.heap.size wea).drew)
        have E0 := hide (BW.out.trans (D0.out.mono BW.out.size))
        refine wpAnyH_take (i := 0) (v := ?_) (by simp only [List.getElem?_toArray, List.getElem?_cons_succ, List.getElem?_cons_zero]; rfl) (by kernel_rfl) (by kernel_rfl) (by kernel_rfl) (fun _ _ _ h => h) (Or.inl ⟨by rfl, ?_⟩) (by assumption) ?_
        rotate_left 1
        · (intro w hSw; (try dsimp only at hSw); go_simp; try with_reducible rfl)
        try simp only [Act.put, List.setIfInBounds_toArray, List.set_cons_zero, List.set_cons_succ]
        refine wpAnyH_take (i := 2) (v := ?_) (by simp only [List.getElem?_toArray, List.getElem?_cons_succ, List.getElem?_cons_zero]; rfl) (by kernel_rfl) (by kernel_rfl) (by kernel_rfl) (fun _ _ _ h => h) (Or.inl ⟨by rfl, ?_⟩) (by assumption) ?_
        rotate_left 1
        · (intro w hSw; (try dsimp only at hSw); go_simp; try with_reducible rfl)
        try simp only [Act.put, List.setIfInBounds_toArray, List.set_cons_zero, List.set_cons_succ]
        refine wpAnyH_take (i := 3) (v := ?_) (by simp only [List.getElem?_toArray, List.getElem?_cons_succ, List.getElem?_cons_zero]; rfl) (by kernel_rfl) (by kernel_rfl) (by kernel_rfl) (fun _ _ _ h => h) (Or.inl ⟨by rfl, ?_⟩) (by assumption) ?_
        rotate_left 1
        · (intro w hSw; (try dsimp only at hSw); go_simp; try with_reducible rfl)
        try simp only [Act.put, List.setIfInBounds_toArray, List.set_cons_zero, List.set_cons_succ]
        refine wpAnyH_ready (rs := [1]) (by kernel_rfl) (by simp) ?_
        refine AllReadyH.cons (by simp only [List.getElem?_toArray, List.getElem?_cons_succ, List.getElem?_cons_zero]; rfl) (fun K hK => ?_) ?_
        rotate_left 1
        · exact AllReadyH.nil
        go_simp
        refine (own_any u.e u.c u.i u.p u.x G1 G2 m1 e1 m2 e2 _ _ _ _ u.fs u.is wea.drew (HG.out.below E0.out) (RwAt.below HJ.out E0.out) (by omega) (by omega) (fun f hf => Nat.le_trans (HLS'.out f hf) (by decide))).mono ?_; rintro r wo ⟨B1, d1, B2, d2, rfl, hf2, hi2, hb⟩; have F4 := hide hf2; have I4 := hide hi2; have D1 := hide (D0.out.trans (hb.mono D0.out.size)); clear hf2 hi2 hb
        refine hK.out _ _ ?_ (fun hHeld2 => ?_)
        · ((try dsimp only) <;> (exact CPP.out _ D1.out))
        clear hHeld
        have hHeld := hHeld2
        clear hHeld2 hK K
        try simp only [Act.put, List.setIfInBounds_toArray, List.set_cons_zero, List.set_cons_succ]
        have E1 := hide (BW.out.trans (D1.out.mono BW.out.size))
        refine wpAnyH_ready (rs := [4]) (by kernel_rfl) (by simp) ?_
        refine AllReadyH.cons (by simp only [List.getElem?_toArray, List.getElem?_cons_succ, List.getElem?_cons_zero]; rfl) (fun K hK => ?_) ?_
        rotate_left 1
        · exact AllReadyH.nil
        go_simp
        refine (enc_any u q1 hq1 B1 B2 m1 d1 m2 d2 _ _ _ _ wo (SP.out.bel E1.out) F4.out I4.out (by omega) (by omega) (by omega) H64'.out).mono ?_; rintro reb web ⟨ha, hb⟩; have EB := hide ha; have D2 := hide (D1.out.trans (hb.mono D1.out.size)); have HREb := hide (EncAns.ex ha); obtain ⟨xb, yb, rfl⟩ := HREb.out; clear ha hb HREb
        refine hK.out _ _ ?_ (fun hHeld2 => ?_)
        · ((try dsimp only) <;> (exact CPP.out _ D2.out))
        clear hHeld
        have hHeld := hHeld2
        clear hHeld2 hK K
        try simp only [Act.put, List.setIfInBounds_toArray, List.set_cons_zero, List.set_cons_succ]
        refine wpAnyH_take (i := 5) (v := ?_) (by simp only [List.getElem?_toArray, List.getElem?_cons_succ, List.getElem?_cons_zero]; rfl) (by kernel_rfl) (by kernel_rfl) (by kernel_rfl) (fun _ _ _ h => h) (Or.inl ⟨by rfl, ?_⟩) (by assumption) ?_
        rotate_left 1
        · (intro w hSw; (try dsimp only at hSw); go_simp; try with_reducible rfl)
        try simp only [Act.put, List.setIfInBounds_toArray, List.set_cons_zero, List.set_cons_succ]
        refine wpAnyH_take (i := 6) (v := ?_) (by simp only [List.getElem?_toArray, List.getElem?_cons_succ, List.getElem?_cons_zero]; rfl) (by kernel_rfl) (by kernel_rfl) (by kernel_rfl) (fun _ _ _ h => h) (Or.inl ⟨by rfl, ?_⟩) (by assumption) ?_
        rotate_left 1
        · (intro w hSw; (try dsimp only at hSw); go_simp; try with_reducible rfl)
        try simp only [Act.put, List.setIfInBounds_toArray, List.set_cons_zero, List.set_cons_succ]
        refine wpAnyH_take (i := 7) (v := ?_) (by simp only [List.getElem?_toArray, List.getElem?_cons_succ, List.getElem?_cons_zero]; rfl) (by kernel_rfl) (by kernel_rfl) (by kernel_rfl) (fun _ _ _ h => h) (Or.inl ⟨by rfl, ?_⟩) (by assumption) ?_
        rotate_left 1
        · (intro w hSw; (try dsimp only at hSw); go_simp; try with_reducible rfl)
        try simp only [Act.put, List.setIfInBounds_toArray, List.set_cons_zero, List.set_cons_succ]
        refine wpAnyH_take (i := 8) (v := ?_) (by simp only [List.getElem?_toArray, List.getElem?_cons_succ, List.getElem?_cons_zero]; rfl) (by kernel_rfl) (by kernel_rfl) (by kernel_rfl) (fun _ _ _ h => h) (Or.inl ⟨by rfl, ?_⟩) (by assumption) ?_
        rotate_left 1
        · (intro w hSw; (try dsimp only at hSw); go_simp; try with_reducible rfl)
        try simp only [Act.put, List.setIfInBounds_toArray, List.set_cons_zero, List.set_cons_succ]
        refine wpAnyH_take (i := 9) (v := ?_) (by simp only [List.getElem?_toArray, List.getElem?_cons_succ, List.getElem?_cons_zero]; rfl) (by kernel_rfl) (by kernel_rfl) (by kernel_rfl) (fun _ _ _ h => h) (Or.inl ⟨by rfl, ?_⟩) (by assumption) ?_
        rotate_left 1
        · (intro w hSw; (try dsimp only at hSw); go_simp; try with_reducible rfl)
        try simp only [Act.put, List.setIfInBounds_toArray, List.set_cons_zero, List.set_cons_succ]
        refine wpAnyH_done (by kernel_rfl) ?_ _
        refine NoPanic.normal ?_
        clear hHeld CPP F4 I4 E0 E1 D0
        replace X3 := hide (X3.out.below D2.out)
        replace X4 := hide (X4.out.below D2.out)
        replace X5 := hide (X5.out.below D2.out)
        replace BW := hide (BW.out.trans (D2.out.mono BW.out.size))

        clear D1 D2
        go_wp2_with fail
        go_ret
        exact ⟨rfl, BW.out⟩
      injection hev with hev
      simp only [Value.tuple.injEq, Array.mk.injEq, List.cons.injEq, and_true] at hev
      obtain ⟨rfl, rfl⟩ := hev
      have OV := hide hov
      clear EA hov
      have CPP := hide (fun (w' : World) (hb : Below wea.heap.size wea w') => show w'.cell? ⟨g3 + 1, 0, none⟩ = some (.int .i64 u.e) ∧ w'.cell? ⟨g3 + 1, 1, none⟩ = some (.int .i64 u.c) ∧ w'.cell? ⟨g3 + 1, 2, none⟩ = some (.int .i64 u.i) ∧ w'.cell? ⟨g3 + 1, 3, none⟩ = some (.int .i64 u.p) ∧ w'.cell? ⟨g3 + 1, 4, none⟩ = some (.int .i64 u.x) ∧ w'.cell? ⟨g3 + 1, 5, none⟩ = some (.slice G1 m1 e1) ∧ w'.cell? ⟨g3 + 1, 6, none⟩ = some (.slice G2 m2 e2) ∧ w'.cell? ⟨g3 + 2, 1, none⟩ = some (.int .u32 (q1 : Int)) from ⟨(X4.out.below hb).cell 0, (X4.out.below hb).cell 1, (X4.out.below hb).cell 2, (X4.out.below hb).cell 3, (X4.out.below hb).cell 4, (X4.out.below hb).cell 5, (X4.out.below hb).cell 6, (X5.out.below hb).cell 1⟩)
      go_wp2_with fail
      have s0 := CPP.out _ (Below.refl _ _).drew
      refine wp_region_noPanic ?_
      refine wp_region_held_drew (S := (fun w' => w'.cell? ⟨g3 + 1, 0, none⟩ = some (.int .i64 u.e) ∧ w'.cell? ⟨g3 + 1, 1, none⟩ = some (.int .i64 u.c) ∧ w'.cell? ⟨g3 + 1, 2, none⟩ = some (.int .i64 u.i) ∧ w'.cell? ⟨g3 + 1, 3, none⟩ = some (.int .i64 u.p) ∧ w'.cell? ⟨g3 + 1, 4, none⟩ = some (.int .i64 u.x) ∧ w'.cell? ⟨g3 + 1, 5, none⟩ = some (.slice G1 m1 e1) ∧ w'.cell? ⟨g3 + 1, 6, none⟩ = some (.slice G2 m2 e2) ∧ w'.cell? ⟨g3 + 2, 1, none⟩ = some (.int .u32 (q1 : Int)))) (by kernel_rfl) ?_ (fun hHeld => ?_)
      · ((try dsimp only) <;> (first | trivial | assumption | go_keep))
      clear s0
      have D0 := hide ((Below.refl wea.heap.size wea).drew)
      have E0 := hide (BW.out.trans (D0.out.mono BW.out.size))
      refine wpAnyH_take (i := 0) (v := ?_) (by simp only [List.getElem?_toArray, List.getElem?_cons_succ, List.getElem?_cons_zero]; rfl) (by kernel_rfl) (by kernel_rfl) (by kernel_rfl) (fun _ _ _ h => h) (Or.inl ⟨by rfl, ?_⟩) (by assumption) ?_
      rotate_left 1
      · (intro w hSw; (try dsimp only at hSw); go_simp; try with_reducible rfl)
      try simp only [Act.put, List.setIfInBounds_toArray, List.set_cons_zero, List.set_cons_succ]
      refine wpAnyH_take (i := 2) (v := ?_) (by simp only [List.getElem?_toArray, List.getElem?_cons_succ, List.getElem?_cons_zero]; rfl) (by kernel_rfl) (by kernel_rfl) (by kernel_rfl) (fun _ _ _ h => h) (Or.inl ⟨by rfl, ?_⟩) (by assumption) ?_
      rotate_left 1
      · (intro w hSw; (try dsimp only at hSw); go_simp; try with_reducible rfl)
      try simp only [Act.put, List.setIfInBounds_toArray, List.set_cons_zero, List.set_cons_succ]
      refine wpAnyH_take (i := 3) (v := ?_) (by simp only [List.getElem?_toArray, List.getElem?_cons_succ, List.getElem?_cons_zero]; rfl) (by kernel_rfl) (by kernel_rfl) (by kernel_rfl) (fun _ _ _ h => h) (Or.inl ⟨by rfl, ?_⟩) (by assumption) ?_
      rotate_left 1
      · (intro w hSw; (try dsimp only at hSw); go_simp; try with_reducible rfl)
      try simp only [Act.put, List.setIfInBounds_toArray, List.set_cons_zero, List.set_cons_succ]
      refine wpAnyH_ready (rs := [1]) (by kernel_rfl) (by simp) ?_
      refine AllReadyH.cons (by simp only [List.getElem?_toArray, List.getElem?_cons_succ, List.getElem?_cons_zero]; rfl) (fun K hK => ?_) ?_
      rotate_left 1
      · exact AllReadyH.nil
      go_simp
      refine (own_any u.e u.c u.i u.p u.x G1 G2 m1 e1 m2 e2 _ _ _ _ u.fs u.is wea.drew (HG.out.below E0.out) (RwAt.below HJ.out E0.out) (by omega) (by omega) (fun f hf => Nat.le_trans (HLS'.out f hf) (by decide))).mono ?_; rintro r wo ⟨B1, d1, B2, d2, rfl, hf2, hi2, hb⟩; have F4 := hide hf2; have I4 := hide hi2; have D1 := hide (D0.out.trans (hb.mono D0.out.size)); clear hf2 hi2 hb
      refine hK.out _ _ ?_ (fun hHeld2 => ?_)
      · ((try dsimp only) <;> (exact CPP.out _ D1.out))
      clear hHeld
      have hHeld := hHeld2
      clear hHeld2 hK K
      try simp only [Act.put, List.setIfInBounds_toArray, List.set_cons_zero, List.set_cons_succ]
      have E1 := hide (BW.out.trans (D1.out.mono BW.out.size))
      refine wpAnyH_ready (rs := [4]) (by kernel_rfl) (by simp) ?_
      refine AllReadyH.cons (by simp only [List.getElem?_toArray, List.getElem?_cons_succ, List.getElem?_cons_zero]; rfl) (fun K hK => ?_) ?_
      rotate_left 1
      · exact AllReadyH.nil
      go_simp
      refine (enc_any u q1 hq1 B1 B2 m1 d1 m2 d2 _ _ _ _ wo (SP.out.bel E1.out) F4.out I4.out (by omega) (by omega) (by omega) H64'.out).mono ?_; rintro reb web ⟨ha, hb⟩; have EB := hide ha; have D2 := hide (D1.out.trans (hb.mono D1.out.size)); have HREb := hide (EncAns.ex ha); obtain ⟨xb, yb, rfl⟩ := HREb.out; clear ha hb HREb
      refine hK.out _ _ ?_ (fun hHeld2 => ?_)
      · ((try dsimp only) <;> (exact CPP.out _ D2.out))
      clear hHeld
      have hHeld := hHeld2
      clear hHeld2 hK K
      try simp only [Act.put, List.setIfInBounds_toArray, List.set_cons_zero, List.set_cons_succ]
      refine wpAnyH_take (i := 5) (v := ?_) (by simp only [List.getElem?_toArray, List.getElem?_cons_succ, List.getElem?_cons_zero]; rfl) (by kernel_rfl) (by kernel_rfl) (by kernel_rfl) (fun _ _ _ h => h) (Or.inl ⟨by rfl, ?_⟩) (by assumption) ?_
      rotate_left 1
      · (intro w hSw; (try dsimp only at hSw); go_simp; try with_reducible rfl)
      try simp only [Act.put, List.setIfInBounds_toArray, List.set_cons_zero, List.set_cons_succ]
      refine wpAnyH_take (i := 6) (v := ?_) (by simp only [List.getElem?_toArray, List.getElem?_cons_succ, List.getElem?_cons_zero]; rfl) (by kernel_rfl) (by kernel_rfl) (by kernel_rfl) (fun _ _ _ h => h) (Or.inl ⟨by rfl, ?_⟩) (by assumption) ?_
      rotate_left 1
      · (intro w hSw; (try dsimp only at hSw); go_simp; try with_reducible rfl)
      try simp only [Act.put, List.setIfInBounds_toArray, List.set_cons_zero, List.set_cons_succ]
      refine wpAnyH_take (i := 7) (v := ?_) (by simp only [List.getElem?_toArray, List.getElem?_cons_succ, List.getElem?_cons_zero]; rfl) (by kernel_rfl) (by kernel_rfl) (by kernel_rfl) (fun _ _ _ h => h) (Or.inl ⟨by rfl, ?_⟩) (by assumption) ?_
      rotate_left 1
      · (intro w hSw; (try dsimp only at hSw); go_simp; try with_reducible rfl)
      try simp only [Act.put, List.setIfInBounds_toArray, List.set_cons_zero, List.set_cons_succ]
      refine wpAnyH_take (i := 8) (v := ?_) (by simp only [List.getElem?_toArray, List.getElem?_cons_succ, List.getElem?_cons_zero]; rfl) (by kernel_rfl) (by kernel_rfl) (by kernel_rfl) (fun _ _ _ h => h) (Or.inl ⟨by rfl, ?_⟩) (by assumption) ?_
      rotate_left 1
      · (intro w hSw; (try dsimp only at hSw); go_simp; try with_reducible rfl)
      try simp only [Act.put, List.setIfInBounds_toArray, List.set_cons_zero, List.set_cons_succ]
      refine wpAnyH_take (i := 9) (v := ?_) (by simp only [List.getElem?_toArray, List.getElem?_cons_succ, List.getElem?_cons_zero]; rfl) (by kernel_rfl) (by kernel_rfl) (by kernel_rfl) (fun _ _ _ h => h) (Or.inl ⟨by rfl, ?_⟩) (by assumption) ?_
      rotate_left 1
      · (intro w hSw; (try dsimp only at hSw); go_simp; try with_reducible rfl)
      try simp only [Act.put, List.setIfInBounds_toArray, List.set_cons_zero, List.set_cons_succ]
      refine wpAnyH_done (by kernel_rfl) ?_ _
      refine NoPanic.normal ?_
      clear hHeld CPP F4 I4 E0 E1 D0
      replace X3 := hide (X3.out.below D2.out)
      replace X4 := hide (X4.out.below D2.out)
      replace X5 := hide (X5.out.below D2.out)
      replace BW := hide (BW.out.trans (D2.out.mono BW.out.size))
      replace OV := hide (own_bel OV.out D2.out)

      clear D1 D2
      rcases EB.out with ⟨hcku, Au, ku, heu, hou⟩ | ⟨hcku, heu⟩
      rotate_left
      · injection heu with heu
        simp only [Value.tuple.injEq, Array.mk.injEq, List.cons.injEq, and_true] at heu
        obtain ⟨rfl, rfl⟩ := heu
        have hckn : (u.ck != 0) = true := bne_iff_ne.2 hcku
        clear EB hcku
        go_wp2_with fail
        go_ret
        exact ⟨rfl, BW.out⟩
      injection heu with heu
      simp only [Value.tuple.injEq, Array.mk.injEq, List.cons.injEq, and_true] at heu
      obtain ⟨rfl, rfl⟩ := heu
      have OU := hide hou
      clear EB hou
      obtain ⟨EV, hEV⟩ : ∃ x, x = v.enc q0 := ⟨_, rfl⟩
      obtain ⟨EU, hEU⟩ : ∃ x, x = u.enc q1 := ⟨_, rfl⟩
      have HEQ := hide (show EV = EU ↔ v = u ∧ q0 = q1 by
        rw [hEV, hEU]
        exact ⟨fun h => enc_inj hckv hcku hq0 hq1 h, fun h => by rw [h.1, h.2]⟩)
      rw [← hEV] at OV
      rw [← hEU] at OU
      clear hEV hEU
      obtain ⟨cv, hcv⟩ := cv_ex Tryd.prog 30 9
      have hcb : ∀ w' : World, By w' web.heap.size Av 128 EV → cv (.slice Av 128 kv) w' = .ok (.string (txt EV)) w' := fun w' h => cv_txt hcv Tryd.underlying30 Tryd.underlying5 Tryd.underlying9 kv h
      have hcb2 : ∀ w' : World, By w' web.heap.size Au 128 EU → cv (.slice Au 128 ku) w' = .ok (.string (txt EU)) w' := fun w' h => cv_txt hcv Tryd.underlying30 Tryd.underlying5 Tryd.underlying9 ku h
      go_wp2_with fail
      have CPP := hide (fun (w' : World) (hb : Below web.heap.size web w') => show w'.cell? ⟨g3, 0, none⟩ = some (.int .i64 v.e) ∧ w'.cell? ⟨g3, 1, none⟩ = some (.int .i64 v.c) ∧ w'.cell? ⟨g3, 2, none⟩ = some (.int .i64 v.i) ∧ w'.cell? ⟨g3, 3, none⟩ = some (.int .i64 v.p) ∧ w'.cell? ⟨g3, 4, none⟩ = some (.int .i64 v.x) ∧ w'.cell? ⟨g3, 5, none⟩ = some (.slice A1 n1 c1) ∧ w'.cell? ⟨g3, 6, none⟩ = some (.slice A2 n2 c2) ∧ w'.cell? ⟨g3 + 1, 0, none⟩ = some (.int .i64 u.e) ∧ w'.cell? ⟨g3 + 1, 1, none⟩ = some (.int .i64 u.c) ∧ w'.cell? ⟨g3 + 1, 2, none⟩ = some (.int .i64 u.i) ∧ w'.cell? ⟨g3 + 1, 3, none⟩ = some (.int .i64 u.p) ∧ w'.cell? ⟨g3 + 1, 4, none⟩ = some (.int .i64 u.x) ∧ w'.cell? ⟨g3 + 1, 5, none⟩ = some (.slice G1 m1 e1) ∧ w'.cell? ⟨g3 + 1, 6, none⟩ = some (.slice G2 m2 e2) ∧ w'.cell? ⟨g3 + 2, 0, none⟩ = some (.int .u32 (q0 : Int)) ∧ w'.cell? ⟨g3 + 2, 1, none⟩ = some (.int .u32 (q1 : Int)) ∧ By w' web.heap.size Av 128 EV ∧ By w' web.heap.size Au 128 EU from ⟨(X3.out.below hb).cell 0, (X3.out.below hb).cell 1, (X3.out.below hb).cell 2, (X3.out.below hb).cell 3, (X3.out.below hb).cell 4, (X3.out.below hb).cell 5, (X3.out.below hb).cell 6, (X4.out.below hb).cell 0, (X4.out.below hb).cell 1, (X4.out.below hb).cell 2, (X4.out.below hb).cell 3, (X4.out.below hb).cell 4, (X4.out.below hb).cell 5, (X4.out.below hb).cell 6, (X5.out.below hb).cell 0, (X5.out.below hb).cell 1, Sl.below (own_byS OV.out) hb, Sl.below (own_byS OU.out) hb⟩)
      have D0 := hide ((Below.refl web.heap.size web).drew)
      have E0 := hide (BW.out.trans (D0.out.mono BW.out.size))
      have SM := hide (same_pv v u A1 A2 G1 G2 n1 c1 n2 c2 m1 e1 m2 e2 _ _ _ _ _ _ _ _ web.drew (HF.out.below E0.out) (HG.out.below E0.out) (RwAt.below HI.out E0.out) (RwAt.below HJ.out E0.out) (by omega) (by omega) (by omega) (by omega) (fun f hf => Nat.le_trans (HLS.out f hf) (by decide)) (fun f hf => Nat.le_trans (HLS'.out f hf) (by decide)))
      by_cases hvu : v = u
      · subst hvu
        by_cases hqq : q0 = q1
        · have hqi : (q0 : Int) = (q1 : Int) := by rw [hqq]
          rw [decide_eq_true (show v = v from rfl)] at SM
          have heq : ((txt EV).toList == (txt EU).toList) = true := by rw [show EV = EU from HEQ.out.2 ⟨rfl, hqq⟩]; exact txt_eq _
          clear hqq
          have s0 := CPP.out _ (Below.refl _ _).drew
          refine wp_region_noPanic ?_
          refine wp_region_held_drew (S := (fun w' => w'.cell? ⟨g3, 0, none⟩ = some (.int .i64 v.e) ∧ w'.cell? ⟨g3, 1, none⟩ = some (.int .i64 v.c) ∧ w'.cell? ⟨g3, 2, none⟩ = some (.int .i64 v.i) ∧ w'.cell? ⟨g3, 3, none⟩ = some (.int .i64 v.p) ∧ w'.cell? ⟨g3, 4, none⟩ = some (.int .i64 v.x) ∧ w'.cell? ⟨g3, 5, none⟩ = some (.slice A1 n1 c1) ∧ w'.cell? ⟨g3, 6, none⟩ = some (.slice A2 n2 c2) ∧ w'.cell? ⟨g3 + 1, 0, none⟩ = some (.int .i64 v.e) ∧ w'.cell? ⟨g3 + 1, 1, none⟩ = some (.int .i64 v.c) ∧ w'.cell? ⟨g3 + 1, 2, none⟩ = some (.int .i64 v.i) ∧ w'.cell? ⟨g3 + 1, 3, none⟩ = some (.int .i64 v.p) ∧ w'.cell? ⟨g3 + 1, 4, none⟩ = some (.int .i64 v.x) ∧ w'.cell? ⟨g3 + 1, 5, none⟩ = some (.slice G1 m1 e1) ∧ w'.cell? ⟨g3 + 1, 6, none⟩ = some (.slice G2 m2 e2) ∧ w'.cell? ⟨g3 + 2, 0, none⟩ = some (.int .u32 (q0 : Int)) ∧ w'.cell? ⟨g3 + 2, 1, none⟩ = some (.int .u32 (q1 : Int)) ∧ By w' web.heap.size Av 128 EV ∧ By w' web.heap.size Au 128 EU)) (by kernel_rfl) ?_ (fun hHeld => ?_)
          · ((try dsimp only) <;> (first | trivial | assumption | go_keep))
          clear s0
          refine wpAnyH_take (i := 0) (v := ?_) (by simp only [List.getElem?_toArray, List.getElem?_cons_succ, List.getElem?_cons_zero]; rfl) (by kernel_rfl) (by kernel_rfl) (by kernel_rfl) (fun _ _ _ h => h) (Or.inl ⟨by rfl, ?_⟩) (by assumption) ?_
          rotate_left 1
          · (intro w hSw; (try dsimp only at hSw); go_simp; try with_reducible rfl)
          try simp only [Act.put, List.setIfInBounds_toArray, List.set_cons_zero, List.set_cons_succ]
          refine wpAnyH_take (i := 1) (v := ?_) (by simp only [List.getElem?_toArray, List.getElem?_cons_succ, List.getElem?_cons_zero]; rfl) (by kernel_rfl) (by kernel_rfl) (by kernel_rfl) (fun _ _ _ h => h) (Or.inl ⟨by rfl, ?_⟩) (by assumption) ?_
          rotate_left 1
          · (intro w hSw; (try dsimp only at hSw); go_simp; try with_reducible rfl)
          try simp only [Act.put, List.setIfInBounds_toArray, List.set_cons_zero, List.set_cons_succ]
          refine wpAnyH_take (i := 2) (v := ?_) (by simp only [List.getElem?_toArray, List.getElem?_cons_succ, List.getElem?_cons_zero]; rfl) (by kernel_rfl) (by kernel_rfl) (by kernel_rfl) (fun _ _ _ h => h) (Or.inl ⟨by rfl, ?_⟩) (by assumption) ?_
          rotate_left 1
          · (intro w hSw; (try dsimp only at hSw); go_simp; try with_reducible rfl)
          try simp only [Act.put, List.setIfInBounds_toArray, List.set_cons_zero, List.set_cons_succ]
          refine wpAnyH_take (i := 3) (v := ?_) (by simp only [List.getElem?_toArray, List.getElem?_cons_succ, List.getElem?_cons_zero]; rfl) (by kernel_rfl) (by kernel_rfl) (by kernel_rfl) (fun _ _ _ h => h) (Or.inl ⟨by rfl, ?_⟩) (by assumption) ?_
          rotate_left 1
          · (intro w hSw; (try dsimp only at hSw); go_simp; try with_reducible rfl)
          try simp only [Act.put, List.setIfInBounds_toArray, List.set_cons_zero, List.set_cons_succ]
          refine wpAnyH_take (i := 4) (v := ?_) (by simp only [List.getElem?_toArray, List.getElem?_cons_succ, List.getElem?_cons_zero]; rfl) (by kernel_rfl) (by kernel_rfl) (by kernel_rfl) (fun _ _ _ h => h) (Or.inl ⟨by rfl, ?_⟩) (by assumption) ?_
          rotate_left 1
          · (intro w hSw; (try dsimp only at hSw); go_simp; try with_reducible rfl)
          try simp only [Act.put, List.setIfInBounds_toArray, List.set_cons_zero, List.set_cons_succ]
          try simp only [heq]
          refine wpAnyH_take (i := 5) (v := ?_) (by simp only [List.getElem?_toArray, List.getElem?_cons_succ, List.getElem?_cons_zero]; rfl) (by kernel_rfl) (by kernel_rfl) (by kernel_rfl) (fun _ _ _ h => h) (Or.inl ⟨by rfl, ?_⟩) (by assumption) ?_
          rotate_left 1
          · (intro w hSw; (try dsimp only at hSw); go_simp; try with_reducible rfl)
          try simp only [Act.put, List.setIfInBounds_toArray, List.set_cons_zero, List.set_cons_succ]
          refine wpAnyH_take (i := 6) (v := ?_) (by simp only [List.getElem?_toArray, List.getElem?_cons_succ, List.getElem?_cons_zero]; rfl) (by kernel_rfl) (by kernel_rfl) (by kernel_rfl) (fun _ _ _ h => h) (Or.inl ⟨by rfl, ?_⟩) (by assumption) ?_
          rotate_left 1
          · (intro w hSw; (try dsimp only at hSw); go_simp; try with_reducible rfl)
          try simp only [Act.put, List.setIfInBounds_toArray, List.set_cons_zero, List.set_cons_succ]
          refine wpAnyH_ready (rs := [7]) (by kernel_rfl) (by simp) ?_
          refine AllReadyH.cons (by simp only [List.getElem?_toArray, List.getElem?_cons_succ, List.getElem?_cons_zero]; rfl) (fun K hK => ?_) ?_
          rotate_left 1
          · exact AllReadyH.nil
          go_simp
          refine SM.out.mono ?_; rintro r w9 ⟨rfl, hb⟩; have D1 := hide (D0.out.trans (hb.mono D0.out.size)); clear hb
          refine hK.out _ _ ?_ (fun hHeld2 => ?_)
          · ((try dsimp only) <;> (exact CPP.out _ D1.out))
          clear hHeld
          have hHeld := hHeld2
          clear hHeld2 hK K
          try simp only [Act.put, List.setIfInBounds_toArray, List.set_cons_zero, List.set_cons_succ]
          refine wpAnyH_take (i := 8) (v := ?_) (by simp only [List.getElem?_toArray, List.getElem?_cons_succ, List.getElem?_cons_zero]; rfl) (by kernel_rfl) (by kernel_rfl) (by kernel_rfl) (fun _ _ _ h => h) (Or.inl ⟨by rfl, ?_⟩) (by assumption) ?_
          rotate_left 1
          · (intro w hSw; (try dsimp only at hSw); go_simp; try with_reducible rfl)
          try simp only [Act.put, List.setIfInBounds_toArray, List.set_cons_zero, List.set_cons_succ]
          refine wpAnyH_take (i := 9) (v := ?_) (by simp only [List.getElem?_toArray, List.getElem?_cons_succ, List.getElem?_cons_zero]; rfl) (by kernel_rfl) (by kernel_rfl) (by kernel_rfl) (fun _ _ _ h => h) (Or.inl ⟨by rfl, ?_⟩) (by assumption) ?_
          rotate_left 1
          · (intro w hSw; (try dsimp only at hSw); go_simp; try with_reducible rfl)
          try simp only [Act.put, List.setIfInBounds_toArray, List.set_cons_zero, List.set_cons_succ]
          refine wpAnyH_take (i := 10) (v := ?_) (by simp only [List.getElem?_toArray, List.getElem?_cons_succ, List.getElem?_cons_zero]; rfl) (by kernel_rfl) (by kernel_rfl) (by kernel_rfl) (fun _ _ _ h => h) (Or.inl ⟨by rfl, ?_⟩) (by assumption) ?_
          rotate_left 1
          · (intro w hSw; (try dsimp only at hSw); go_simp; try with_reducible rfl)
          try simp only [Act.put, List.setIfInBounds_toArray, List.set_cons_zero, List.set_cons_succ]
          refine wpAnyH_take (i := 11) (v := ?_) (by simp only [List.getElem?_toArray, List.getElem?_cons_succ, List.getElem?_cons_zero]; rfl) (by kernel_rfl) (by kernel_rfl) (by kernel_rfl) (fun _ _ _ h => h) (Or.inl ⟨by rfl, ?_⟩) (by assumption) ?_
          rotate_left 1
          · (intro w hSw; (try dsimp only at hSw); go_simp; try with_reducible rfl)
          try simp only [Act.put, List.setIfInBounds_toArray, List.set_cons_zero, List.set_cons_succ]
          refine wpAnyH_take (i := 12) (v := ?_) (by simp only [List.getElem?_toArray, List.getElem?_cons_succ, List.getElem?_cons_zero]; rfl) (by kernel_rfl) (by kernel_rfl) (by kernel_rfl) (fun _ _ _ h => h) (Or.inl ⟨by rfl, ?_⟩) (by assumption) ?_
          rotate_left 1
          · (intro w hSw; (try dsimp only at hSw); go_simp; try with_reducible rfl)
          try simp only [Act.put, List.setIfInBounds_toArray, List.set_cons_zero, List.set_cons_succ]
          refine wpAnyH_take (i := 13) (v := ?_) (by simp only [List.getElem?_toArray, List.getElem?_cons_succ, List.getElem?_cons_zero]; rfl) (by kernel_rfl) (by kernel_rfl) (by kernel_rfl) (fun _ _ _ h => h) (Or.inl ⟨by rfl, ?_⟩) (by assumption) ?_
          rotate_left 1
          · (intro w hSw; (try dsimp only at hSw); go_simp; try with_reducible rfl)
          try simp only [Act.put, List.setIfInBounds_toArray, List.set_cons_zero, List.set_cons_succ]
          refine wpAnyH_take (i := 14) (v := ?_) (by simp only [List.getElem?_toArray, List.getElem?_cons_succ, List.getElem?_cons_zero]; rfl) (by kernel_rfl) (by kernel_rfl) (by kernel_rfl) (fun _ _ _ h => h) (Or.inl ⟨by rfl, ?_⟩) (by assumption) ?_
          rotate_left 1
          · (intro w hSw; (try dsimp only at hSw); go_simp; try with_reducible rfl)
          try simp only [Act.put, List.setIfInBounds_toArray, List.set_cons_zero, List.set_cons_succ]
          refine wpAnyH_take (i := 15) (v := ?_) (by simp only [List.getElem?_toArray, List.getElem?_cons_succ, List.getElem?_cons_zero]; rfl) (by kernel_rfl) (by kernel_rfl) (by kernel_rfl) (fun _ _ _ h => h) (Or.inl ⟨by rfl, ?_⟩) (by assumption) ?_
          rotate_left 1
          · (intro w hSw; (try dsimp only at hSw); go_simp; try with_reducible rfl)
          try simp only [Act.put, List.setIfInBounds_toArray, List.set_cons_zero, List.set_cons_succ]
          refine wpAnyH_take (i := 16) (v := ?_) (by simp only [List.getElem?_toArray, List.getElem?_cons_succ, List.getElem?_cons_zero]; rfl) (by kernel_rfl) (by kernel_rfl) (by kernel_rfl) (fun _ _ _ h => h) (Or.inl ⟨by rfl, ?_⟩) (by assumption) ?_
          rotate_left 1
          · (intro w hSw; (try dsimp only at hSw); go_simp; try with_reducible rfl)
          try simp only [Act.put, List.setIfInBounds_toArray, List.set_cons_zero, List.set_cons_succ]
          refine wpAnyH_done (by kernel_rfl) ?_ _
          refine NoPanic.normal ?_
          have E1 := hide (BW.out.trans (D1.out.mono BW.out.size))
          clear hHeld
          go_wp2_with fail
          go_ret
          exact ⟨rfl, E1.out⟩
        · have hqi : ¬ (q0 : Int) = (q1 : Int) := by omega
          have hqi2 : (q0 : Int) ≠ (q1 : Int) := hqi
          rw [decide_eq_true (show v = v from rfl)] at SM
          have heq : ((txt EV).toList == (txt EU).toList) = false := txt_ne (fun h => hqq (HEQ.out.1 h).2)
          clear hqi
          have s0 := CPP.out _ (Below.refl _ _).drew
          refine wp_region_noPanic ?_
          refine wp_region_held_drew (S := (fun w' => w'.cell? ⟨g3, 0, none⟩ = some (.int .i64 v.e) ∧ w'.cell? ⟨g3, 1, none⟩ = some (.int .i64 v.c) ∧ w'.cell? ⟨g3, 2, none⟩ = some (.int .i64 v.i) ∧ w'.cell? ⟨g3, 3, none⟩ = some (.int .i64 v.p) ∧ w'.cell? ⟨g3, 4, none⟩ = some (.int .i64 v.x) ∧ w'.cell? ⟨g3, 5, none⟩ = some (.slice A1 n1 c1) ∧ w'.cell? ⟨g3, 6, none⟩ = some (.slice A2 n2 c2) ∧ w'.cell? ⟨g3 + 1, 0, none⟩ = some (.int .i64 v.e) ∧ w'.cell? ⟨g3 + 1, 1, none⟩ = some (.int .i64 v.c) ∧ w'.cell? ⟨g3 + 1, 2, none⟩ = some (.int .i64 v.i) ∧ w'.cell? ⟨g3 + 1, 3, none⟩ = some (.int .i64 v.p) ∧ w'.cell? ⟨g3 + 1, 4, none⟩ = some (.int .i64 v.x) ∧ w'.cell? ⟨g3 + 1, 5, none⟩ = some (.slice G1 m1 e1) ∧ w'.cell? ⟨g3 + 1, 6, none⟩ = some (.slice G2 m2 e2) ∧ w'.cell? ⟨g3 + 2, 0, none⟩ = some (.int .u32 (q0 : Int)) ∧ w'.cell? ⟨g3 + 2, 1, none⟩ = some (.int .u32 (q1 : Int)) ∧ By w' web.heap.size Av 128 EV ∧ By w' web.heap.size Au 128 EU)) (by kernel_rfl) ?_ (fun hHeld => ?_)
          · ((try dsimp only) <;> (first | trivial | assumption | go_keep))
          clear s0
          refine wpAnyH_take (i := 0) (v := ?_) (by simp only [List.getElem?_toArray, List.getElem?_cons_succ, List.getElem?_cons_zero]; rfl) (by kernel_rfl) (by kernel_rfl) (by kernel_rfl) (fun _ _ _ h => h) (Or.inl ⟨by rfl, ?_⟩) (by assumption) ?_
          rotate_left 1
          · (intro w hSw; (try dsimp only at hSw); go_simp; try with_reducible rfl)
          try simp only [Act.put, List.setIfInBounds_toArray, List.set_cons_zero, List.set_cons_succ]
          refine wpAnyH_take (i := 1) (v := ?_) (by simp only [List.getElem?_toArray, List.getElem?_cons_succ, List.getElem?_cons_zero]; rfl) (by kernel_rfl) (by kernel_rfl) (by kernel_rfl) (fun _ _ _ h => h) (Or.inl ⟨by rfl, ?_⟩) (by assumption) ?_
          rotate_left 1
          · (intro w hSw; (try dsimp only at hSw); go_simp; try with_reducible rfl)
          try simp only [Act.put, List.setIfInBounds_toArray, List.set_cons_zero, List.set_cons_succ]
          refine wpAnyH_take (i := 2) (v := ?_) (by simp only [List.getElem?_toArray, List.getElem?_cons_succ, List.getElem?_cons_zero]; rfl) (by kernel_rfl) (by kernel_rfl) (by kernel_rfl) (fun _ _ _ h => h) (Or.inl ⟨by rfl, ?_⟩) (by assumption) ?_
          rotate_left 1
          · (intro w hSw; (try dsimp only at hSw); go_simp; try with_reducible rfl)
          try simp only [Act.put, List.setIfInBounds_toArray, List.set_cons_zero, List.set_cons_succ]
          refine wpAnyH_take (i := 3) (v := ?_) (by simp only [List.getElem?_toArray, List.getElem?_cons_succ, List.getElem?_cons_zero]; rfl) (by kernel_rfl) (by kernel_rfl) (by kernel_rfl) (fun _ _ _ h => h) (Or.inl ⟨by rfl, ?_⟩) (by assumption) ?_
          rotate_left 1
          · (intro w hSw; (try dsimp only at hSw); go_simp; try with_reducible rfl)
          try simp only [Act.put, List.setIfInBounds_toArray, List.set_cons_zero, List.set_cons_succ]
          refine wpAnyH_take (i := 4) (v := ?_) (by simp only [List.getElem?_toArray, List.getElem?_cons_succ, List.getElem?_cons_zero]; rfl) (by kernel_rfl) (by kernel_rfl) (by kernel_rfl) (fun _ _ _ h => h) (Or.inl ⟨by rfl, ?_⟩) (by assumption) ?_
          rotate_left 1
          · (intro w hSw; (try dsimp only at hSw); go_simp; try with_reducible rfl)
          try simp only [Act.put, List.setIfInBounds_toArray, List.set_cons_zero, List.set_cons_succ]
          try simp only [heq]
          refine wpAnyH_take (i := 5) (v := ?_) (by simp only [List.getElem?_toArray, List.getElem?_cons_succ, List.getElem?_cons_zero]; rfl) (by kernel_rfl) (by kernel_rfl) (by kernel_rfl) (fun _ _ _ h => h) (Or.inl ⟨by rfl, ?_⟩) (by assumption) ?_
          rotate_left 1
          · (intro w hSw; (try dsimp only at hSw); go_simp; try with_reducible rfl)
          try simp only [Act.put, List.setIfInBounds_toArray, List.set_cons_zero, List.set_cons_succ]
          refine wpAnyH_take (i := 6) (v := ?_) (by simp only [List.getElem?_toArray, List.getElem?_cons_succ, List.getElem?_cons_zero]; rfl) (by kernel_rfl) (by kernel_rfl) (by kernel_rfl) (fun _ _ _ h => h) (Or.inl ⟨by rfl, ?_⟩) (by assumption) ?_
          rotate_left 1
          · (intro w hSw; (try dsimp only at hSw); go_simp; try with_reducible rfl)
          try simp only [Act.put, List.setIfInBounds_toArray, List.set_cons_zero, List.set_cons_succ]
          refine wpAnyH_ready (rs := [7]) (by kernel_rfl) (by simp) ?_
          refine AllReadyH.cons (by simp only [List.getElem?_toArray, List.getElem?_cons_succ, List.getElem?_cons_zero]; rfl) (fun K hK => ?_) ?_
          rotate_left 1
          · exact AllReadyH.nil
          go_simp
          refine SM.out.mono ?_; rintro r w9 ⟨rfl, hb⟩; have D1 := hide (D0.out.trans (hb.mono D0.out.size)); clear hb
          refine hK.out _ _ ?_ (fun hHeld2 => ?_)
          · ((try dsimp only) <;> (exact CPP.out _ D1.out))
          clear hHeld
          have hHeld := hHeld2
          clear hHeld2 hK K
          try simp only [Act.put, List.setIfInBounds_toArray, List.set_cons_zero, List.set_cons_succ]
          refine wpAnyH_take (i := 8) (v := ?_) (by simp only [List.getElem?_toArray, List.getElem?_cons_succ, List.getElem?_cons_zero]; rfl) (by kernel_rfl) (by kernel_rfl) (by kernel_rfl) (fun _ _ _ h => h) (Or.inl ⟨by rfl, ?_⟩) (by assumption) ?_
          rotate_left 1
          · (intro w hSw; (try dsimp only at hSw); go_simp; try with_reducible rfl)
          try simp only [Act.put, List.setIfInBounds_toArray, List.set_cons_zero, List.set_cons_succ]
          refine wpAnyH_take (i := 9) (v := ?_) (by simp only [List.getElem?_toArray, List.getElem?_cons_succ, List.getElem?_cons_zero]; rfl) (by kernel_rfl) (by kernel_rfl) (by kernel_rfl) (fun _ _ _ h => h) (Or.inl ⟨by rfl, ?_⟩) (by assumption) ?_
          rotate_left 1
          · (intro w hSw; (try dsimp only at hSw); go_simp; try with_reducible rfl)
          try simp only [Act.put, List.setIfInBounds_toArray, List.set_cons_zero, List.set_cons_succ]
          refine wpAnyH_take (i := 10) (v := ?_) (by simp only [List.getElem?_toArray, List.getElem?_cons_succ, List.getElem?_cons_zero]; rfl) (by kernel_rfl) (by kernel_rfl) (by kernel_rfl) (fun _ _ _ h => h) (Or.inl ⟨by rfl, ?_⟩) (by assumption) ?_
          rotate_left 1
          · (intro w hSw; (try dsimp only at hSw); go_simp; try with_reducible rfl)
          try simp only [Act.put, List.setIfInBounds_toArray, List.set_cons_zero, List.set_cons_succ]
          refine wpAnyH_take (i := 11) (v := ?_) (by simp only [List.getElem?_toArray, List.getElem?_cons_succ, List.getElem?_cons_zero]; rfl) (by kernel_rfl) (by kernel_rfl) (by kernel_rfl) (fun _ _ _ h => h) (Or.inl ⟨by rfl, ?_⟩) (by assumption) ?_
          rotate_left 1
          · (intro w hSw; (try dsimp only at hSw); go_simp; try with_reducible rfl)
          try simp only [Act.put, List.setIfInBounds_toArray, List.set_cons_zero, List.set_cons_succ]
          refine wpAnyH_take (i := 12) (v := ?_) (by simp only [List.getElem?_toArray, List.getElem?_cons_succ, List.getElem?_cons_zero]; rfl) (by kernel_rfl) (by kernel_rfl) (by kernel_rfl) (fun _ _ _ h => h) (Or.inl ⟨by rfl, ?_⟩) (by assumption) ?_
          rotate_left 1
          · (intro w hSw; (try dsimp only at hSw); go_simp; try with_reducible rfl)
          try simp only [Act.put, List.setIfInBounds_toArray, List.set_cons_zero, List.set_cons_succ]
          refine wpAnyH_take (i := 13) (v := ?_) (by simp only [List.getElem?_toArray, List.getElem?_cons_succ, List.getElem?_cons_zero]; rfl) (by kernel_rfl) (by kernel_rfl) (by kernel_rfl) (fun _ _ _ h => h) (Or.inl ⟨by rfl, ?_⟩) (by assumption) ?_
          rotate_left 1
          · (intro w hSw; (try dsimp only at hSw); go_simp; try with_reducible rfl)
          try simp only [Act.put, List.setIfInBounds_toArray, List.set_cons_zero, List.set_cons_succ]
          refine wpAnyH_take (i := 14) (v := ?_) (by simp only [List.getElem?_toArray, List.getElem?_cons_succ, List.getElem?_cons_zero]; rfl) (by kernel_rfl) (by kernel_rfl) (by kernel_rfl) (fun _ _ _ h => h) (Or.inl ⟨by rfl, ?_⟩) (by assumption) ?_
          rotate_left 1
          · (intro w hSw; (try dsimp only at hSw); go_simp; try with_reducible rfl)
          try simp only [Act.put, List.setIfInBounds_toArray, List.set_cons_zero, List.set_cons_succ]
          refine wpAnyH_take (i := 15) (v := ?_) (by simp only [List.getElem?_toArray, List.getElem?_cons_succ, List.getElem?_cons_zero]; rfl) (by kernel_rfl) (by kernel_rfl) (by kernel_rfl) (fun _ _ _ h => h) (Or.inl ⟨by rfl, ?_⟩) (by assumption) ?_
          rotate_left 1
          · (intro w hSw; (try dsimp only at hSw); go_simp; try with_reducible rfl)
          try simp only [Act.put, List.setIfInBounds_toArray, List.set_cons_zero, List.set_cons_succ]
          refine wpAnyH_take (i := 16) (v := ?_) (by simp only [List.getElem?_toArray, List.getElem?_cons_succ, List.getElem?_cons_zero]; rfl) (by kernel_rfl) (by kernel_rfl) (by kernel_rfl) (fun _ _ _ h => h) (Or.inl ⟨by rfl, ?_⟩) (by assumption) ?_
          rotate_left 1
          · (intro w hSw; (try dsimp only at hSw); go_simp; try with_reducible rfl)
          try simp only [Act.put, List.setIfInBounds_toArray, List.set_cons_zero, List.set_cons_succ]
          refine wpAnyH_done (by kernel_rfl) ?_ _
          refine NoPanic.normal ?_
          have E1 := hide (BW.out.trans (D1.out.mono BW.out.size))
          clear hHeld
          go_wp2_with fail
          go_ret
          exact ⟨congrArg (fun b => Ending.returned (Value.bool (!b))) (beq_false_of_ne hqi2), E1.out⟩
      · skip
        rw [decide_eq_false hvu] at SM
        have heq : ((txt EV).toList == (txt EU).toList) = false := txt_ne (fun h => hvu (HEQ.out.1 h).1)
        clear hvu
        have s0 := CPP.out _ (Below.refl _ _).drew
        refine wp_region_noPanic ?_
        refine wp_region_held_drew (S := (fun w' => w'.cell? ⟨g3, 0, none⟩ = some (.int .i64 v.e) ∧ w'.cell? ⟨g3, 1, none⟩ = some (.int .i64 v.c) ∧ w'.cell? ⟨g3, 2, none⟩ = some (.int .i64 v.i) ∧ w'.cell? ⟨g3, 3, none⟩ = some (.int .i64 v.p) ∧ w'.cell? ⟨g3, 4, none⟩ = some (.int .i64 v.x) ∧ w'.cell? ⟨g3, 5, none⟩ = some (.slice A1 n1 c1) ∧ w'.cell? ⟨g3, 6, none⟩ = some (.slice A2 n2 c2) ∧ w'.cell? ⟨g3 + 1, 0, none⟩ = some (.int .i64 u.e) ∧ w'.cell? ⟨g3 + 1, 1, none⟩ = some (.int .i64 u.c) ∧ w'.cell? ⟨g3 + 1, 2, none⟩ = some (.int .i64 u.i) ∧ w'.cell? ⟨g3 + 1, 3, none⟩ = some (.int .i64 u.p) ∧ w'.cell? ⟨g3 + 1, 4, none⟩ = some (.int .i64 u.x) ∧ w'.cell? ⟨g3 + 1, 5, none⟩ = some (.slice G1 m1 e1) ∧ w'.cell? ⟨g3 + 1, 6, none⟩ = some (.slice G2 m2 e2) ∧ w'.cell? ⟨g3 + 2, 0, none⟩ = some (.int .u32 (q0 : Int)) ∧ w'.cell? ⟨g3 + 2, 1, none⟩ = some (.int .u32 (q1 : Int)) ∧ By w' web.heap.size Av 128 EV ∧ By w' web.heap.size Au 128 EU)) (by kernel_rfl) ?_ (fun hHeld => ?_)
        · ((try dsimp only) <;> (first | trivial | assumption | go_keep))
        clear s0
        refine wpAnyH_take (i := 0) (v := ?_) (by simp only [List.getElem?_toArray, List.getElem?_cons_succ, List.getElem?_cons_zero]; rfl) (by kernel_rfl) (by kernel_rfl) (by kernel_rfl) (fun _ _ _ h => h) (Or.inl ⟨by rfl, ?_⟩) (by assumption) ?_
        rotate_left 1
        · (intro w hSw; (try dsimp only at hSw); go_simp; try with_reducible rfl)
        try simp only [Act.put, List.setIfInBounds_toArray, List.set_cons_zero, List.set_cons_succ]
        refine wpAnyH_take (i := 1) (v := ?_) (by simp only [List.getElem?_toArray, List.getElem?_cons_succ, List.getElem?_cons_zero]; rfl) (by kernel_rfl) (by kernel_rfl) (by kernel_rfl) (fun _ _ _ h => h) (Or.inl ⟨by rfl, ?_⟩) (by assumption) ?_
        rotate_left 1
        · (intro w hSw; (try dsimp only at hSw); go_simp; try with_reducible rfl)
        try simp only [Act.put, List.setIfInBounds_toArray, List.set_cons_zero, List.set_cons_succ]
        refine wpAnyH_take (i := 2) (v := ?_) (by simp only [List.getElem?_toArray, List.getElem?_cons_succ, List.getElem?_cons_zero]; rfl) (by kernel_rfl) (by kernel_rfl) (by kernel_rfl) (fun _ _ _ h => h) (Or.inl ⟨by rfl, ?_⟩) (by assumption) ?_
        rotate_left 1
        · (intro w hSw; (try dsimp only at hSw); go_simp; try with_reducible rfl)
        try simp only [Act.put, List.setIfInBounds_toArray, List.set_cons_zero, List.set_cons_succ]
        refine wpAnyH_take (i := 3) (v := ?_) (by simp only [List.getElem?_toArray, List.getElem?_cons_succ, List.getElem?_cons_zero]; rfl) (by kernel_rfl) (by kernel_rfl) (by kernel_rfl) (fun _ _ _ h => h) (Or.inl ⟨by rfl, ?_⟩) (by assumption) ?_
        rotate_left 1
        · (intro w hSw; (try dsimp only at hSw); go_simp; try with_reducible rfl)
        try simp only [Act.put, List.setIfInBounds_toArray, List.set_cons_zero, List.set_cons_succ]
        refine wpAnyH_take (i := 4) (v := ?_) (by simp only [List.getElem?_toArray, List.getElem?_cons_succ, List.getElem?_cons_zero]; rfl) (by kernel_rfl) (by kernel_rfl) (by kernel_rfl) (fun _ _ _ h => h) (Or.inl ⟨by rfl, ?_⟩) (by assumption) ?_
        rotate_left 1
        · (intro w hSw; (try dsimp only at hSw); go_simp; try with_reducible rfl)
        try simp only [Act.put, List.setIfInBounds_toArray, List.set_cons_zero, List.set_cons_succ]
        try simp only [heq]
        refine wpAnyH_take (i := 5) (v := ?_) (by simp only [List.getElem?_toArray, List.getElem?_cons_succ, List.getElem?_cons_zero]; rfl) (by kernel_rfl) (by kernel_rfl) (by kernel_rfl) (fun _ _ _ h => h) (Or.inl ⟨by rfl, ?_⟩) (by assumption) ?_
        rotate_left 1
        · (intro w hSw; (try dsimp only at hSw); go_simp; try with_reducible rfl)
        try simp only [Act.put, List.setIfInBounds_toArray, List.set_cons_zero, List.set_cons_succ]
        refine wpAnyH_take (i := 6) (v := ?_) (by simp only [List.getElem?_toArray, List.getElem?_cons_succ, List.getElem?_cons_zero]; rfl) (by kernel_rfl) (by kernel_rfl) (by kernel_rfl) (fun _ _ _ h => h) (Or.inl ⟨by rfl, ?_⟩) (by assumption) ?_
        rotate_left 1
        · (intro w hSw; (try dsimp only at hSw); go_simp; try with_reducible rfl)
        try simp only [Act.put, List.setIfInBounds_toArray, List.set_cons_zero, List.set_cons_succ]
        refine wpAnyH_ready (rs := [7]) (by kernel_rfl) (by simp) ?_
        refine AllReadyH.cons (by simp only [List.getElem?_toArray, List.getElem?_cons_succ, List.getElem?_cons_zero]; rfl) (fun K hK => ?_) ?_
        rotate_left 1
        · exact AllReadyH.nil
        go_simp
        refine SM.out.mono ?_; rintro r w9 ⟨rfl, hb⟩; have D1 := hide (D0.out.trans (hb.mono D0.out.size)); clear hb
        refine hK.out _ _ ?_ (fun hHeld2 => ?_)
        · ((try dsimp only) <;> (exact CPP.out _ D1.out))
        clear hHeld
        have hHeld := hHeld2
        clear hHeld2 hK K
        try simp only [Act.put, List.setIfInBounds_toArray, List.set_cons_zero, List.set_cons_succ]
        refine wpAnyH_take (i := 8) (v := ?_) (by simp only [List.getElem?_toArray, List.getElem?_cons_succ, List.getElem?_cons_zero]; rfl) (by kernel_rfl) (by kernel_rfl) (by kernel_rfl) (fun _ _ _ h => h) (Or.inl ⟨by rfl, ?_⟩) (by assumption) ?_
        rotate_left 1
        · (intro w hSw; (try dsimp only at hSw); go_simp; try with_reducible rfl)
        try simp only [Act.put, List.setIfInBounds_toArray, List.set_cons_zero, List.set_cons_succ]
        refine wpAnyH_take (i := 9) (v := undef) (by simp only [List.getElem?_toArray, List.getElem?_cons_succ, List.getElem?_cons_zero]; rfl) (by kernel_rfl) (by kernel_rfl) (by kernel_rfl) (fun _ _ _ h => h) (Or.inr ⟨by rfl, rfl⟩) (by assumption) ?_
        try simp only [Act.put, List.setIfInBounds_toArray, List.set_cons_zero, List.set_cons_succ]
        refine wpAnyH_take (i := 10) (v := undef) (by simp only [List.getElem?_toArray, List.getElem?_cons_succ, List.getElem?_cons_zero]; rfl) (by kernel_rfl) (by kernel_rfl) (by kernel_rfl) (fun _ _ _ h => h) (Or.inr ⟨by rfl, rfl⟩) (by assumption) ?_
        try simp only [Act.put, List.setIfInBounds_toArray, List.set_cons_zero, List.set_cons_succ]
        refine wpAnyH_take (i := 11) (v := undef) (by simp only [List.getElem?_toArray, List.getElem?_cons_succ, List.getElem?_cons_zero]; rfl) (by kernel_rfl) (by kernel_rfl) (by kernel_rfl) (fun _ _ _ h => h) (Or.inr ⟨by rfl, rfl⟩) (by assumption) ?_
        try simp only [Act.put, List.setIfInBounds_toArray, List.set_cons_zero, List.set_cons_succ]
        refine wpAnyH_take (i := 12) (v := undef) (by simp only [List.getElem?_toArray, List.getElem?_cons_succ, List.getElem?_cons_zero]; rfl) (by kernel_rfl) (by kernel_rfl) (by kernel_rfl) (fun _ _ _ h => h) (Or.inr ⟨by rfl, rfl⟩) (by assumption) ?_
        try simp only [Act.put, List.setIfInBounds_toArray, List.set_cons_zero, List.set_cons_succ]
        refine wpAnyH_take (i := 13) (v := undef) (by simp only [List.getElem?_toArray, List.getElem?_cons_succ, List.getElem?_cons_zero]; rfl) (by kernel_rfl) (by kernel_rfl) (by kernel_rfl) (fun _ _ _ h => h) (Or.inr ⟨by rfl, rfl⟩) (by assumption) ?_
        try simp only [Act.put, List.setIfInBounds_toArray, List.set_cons_zero, List.set_cons_succ]
        refine wpAnyH_take (i := 14) (v := ?_) (by simp only [List.getElem?_toArray, List.getElem?_cons_succ, List.getElem?_cons_zero]; rfl) (by kernel_rfl) (by kernel_rfl) (by kernel_rfl) (fun _ _ _ h => h) (Or.inl ⟨by rfl, ?_⟩) (by assumption) ?_
        rotate_left 1
        · (intro w hSw; (try dsimp only at hSw); go_simp; try with_reducible rfl)
        try simp only [Act.put, List.setIfInBounds_toArray, List.set_cons_zero, List.set_cons_succ]
        refine wpAnyH_take (i := 15) (v := ?_) (by simp only [List.getElem?_toArray, List.getElem?_cons_succ, List.getElem?_cons_zero]; rfl) (by kernel_rfl) (by kernel_rfl) (by kernel_rfl) (fun _ _ _ h => h) (Or.inl ⟨by rfl, ?_⟩) (by assumption) ?_
        rotate_left 1
        · (intro w hSw; (try dsimp only at hSw); go_simp; try with_reducible rfl)
        try simp only [Act.put, List.setIfInBounds_toArray, List.set_cons_zero, List.set_cons_succ]
        refine wpAnyH_take (i := 16) (v := ?_) (by simp only [List.getElem?_toArray, List.getElem?_cons_succ, List.getElem?_cons_zero]; rfl) (by kernel_rfl) (by kernel_rfl) (by kernel_rfl) (fun _ _ _ h => h) (Or.inl ⟨by rfl, ?_⟩) (by assumption) ?_
        rotate_left 1
        · (intro w hSw; (try dsimp only at hSw); go_simp; try with_reducible rfl)
        try simp only [Act.put, List.setIfInBounds_toArray, List.set_cons_zero, List.set_cons_succ]
        refine wpAnyH_done (by kernel_rfl) ?_ _
        refine NoPanic.normal ?_
        have E1 := hide (BW.out.trans (D1.out.mono BW.out.size))
        clear hHeld
        go_wp2_with fail
        go_ret
        exact ⟨rfl, E1.out⟩
end Go.Proofs.YtbamdibpkkponaaDoor
