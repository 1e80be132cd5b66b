import Derived.Test.YtlobkefacnedeaaDoorJc06
set_option linter.unusedVariables false
set_option linter.unusedSimpArgs false
/- The walk of marllaw15.written (printed by gen_sgwt.py). -/
namespace Go.Proofs.YtlobkefacnedeaaDoor
open Go.RowKit
set_option maxRecDepth 100000
attribute [local go_sem ↓] Go.wp_at_zero Go.wp_at_succ

/-- What it answers: both disks hold the same. -/
def WtAns (w : World) (n : Nat) (r : Ending) (w' : World) : Prop :=
  ∃ D d As cs Aq cq, r = .returned (.tuple #[.pointer (some ⟨d, 0, none⟩), .agg (refV As cs Aq cq D), .bool true]) ∧ LD w w' d D ∧ RefM w' w.heap.size As cs Aq cq D ∧ D.left < 0 ∧ D.queue = [] ∧ D.sure.length = n ∧ D.steps ≤ 5000
theorem ret_wt {K : Ending → World → Prop} {a : Act} {w : World} {g : Nat} {x0 x1 x2 x3 u v : Value} (hd : a.defers = []) (h4 : a.tmps.getD 4 undef = u) (hp : a.tmps.getD 5 undef = .pointer (some ⟨g, 0, none⟩)) (hq : a.tmps.getD 6 undef = v) (hB : Blk w g 51 #[x0, x1, x2, x3])
    (hK : K (.returned (.tuple #[u, .agg #[x0, x1, x2, x3], v])) w) : bodyPost Tryd.prog Tryd.f18 K .ret a w := by
  have hp' : a.tmps[5]?.getD undef = .pointer (some ⟨g, 0, none⟩) := by simpa using hp
  have hq' : a.tmps[6]?.getD undef = v := by simpa using hq
  have h4' : a.tmps[4]?.getD undef = u := by simpa using h4
  refine bodyPost_ret (v := .tuple #[u, .agg #[x0, x1, x2, x3], v]) ?_ hd hK
  simp [results, Tryd.results18, h4', hp', hq', asAddr, run_loadVar_row w g 51 51 #[x0, x1, x2, x3] (0, 0) _ hB Tryd.underlying51 rfl (by kernel_rfl)]
theorem pcI_cells {w : World} {b off : Nat} {a : Int} {v : PV} {data : List UInt8} {A1 A2 A3 : Option Addr} {n1 c1 n2 c2 m c3 : Nat} (h : PcI w b off (a, v, data) A1 n1 c1 A2 n2 c2 A3 m c3) :
    w.cell? ⟨b, off, none⟩ = some (.int .i64 a) ∧ w.cell? ⟨b, off + 1, none⟩ = some (.int .i64 v.e) ∧ w.cell? ⟨b, off + 2, none⟩ = some (.int .i64 v.c) ∧ w.cell? ⟨b, off + 3, none⟩ = some (.int .i64 v.i) ∧ w.cell? ⟨b, off + 4, none⟩ = some (.int .i64 v.p) ∧ w.cell? ⟨b, off + 5, none⟩ = some (.int .i64 v.x) ∧ w.cell? ⟨b, off + 6, none⟩ = some (.slice A1 n1 c1) ∧ w.cell? ⟨b, off + 7, none⟩ = some (.slice A2 n2 c2) ∧ w.cell? ⟨b, off + 8, none⟩ = some (.slice A3 m c3) :=
  ⟨h.cell 0 _ rfl, h.cell 1 _ rfl, h.cell 2 _ rfl, h.cell 3 _ rfl, h.cell 4 _ rfl, h.cell 5 _ rfl, h.cell 6 _ rfl, h.cell 7 _ rfl, h.cell 8 _ rfl⟩
theorem op7S {w : World} {k : Nat} {t : TypeId} {x0 x1 x2 x3 x4 x5 x6 : Value} (h : Blk w k t #[x0, x1, x2, x3, x4, x5, x6]) :
    w.cell? ⟨k, 0, none⟩ = some x0 ∧ w.cell? ⟨k, 1, none⟩ = some x1 ∧ w.cell? ⟨k, 2, none⟩ = some x2 ∧ w.cell? ⟨k, 3, none⟩ = some x3 ∧ w.cell? ⟨k, 4, none⟩ = some x4 ∧ w.cell? ⟨k, 5, none⟩ = some x5 ∧ w.cell? ⟨k, 6, none⟩ = some x6 :=
  ⟨h.cell 0, h.cell 1, h.cell 2, h.cell 3, h.cell 4, h.cell 5, h.cell 6⟩
set_option maxHeartbeats 16000000 in
theorem written15 (w : World) (n : Nat) (h1 : 1 ≤ n) (h2 : n ≤ 4096) (A : Option Addr) (m c : Nat) (ps : List (Int × PV × List UInt8)) (sp : SpanAt w) (hp : PcsAt w A m ps) (hm : m ≤ 9223372036854775807) :
    Calls Tryd.prog 18 #[.int .i64 (n : Int), .slice A m c] w (WtAns w n) := by
  have SP := hide sp
  have HP := hide hp
  clear sp hp
  go_enter Tryd.func18, Tryd.ntmps18
  go_upto_region 1 with fail
  obtain ⟨w1, hw⟩ : ∃ W, W = w.alloc (.cells #[.slice none 0 0, .slice none 0 0, .int .i64 0, .int .i64 0] 51) := ⟨_, rfl⟩
  have X5 : Hid (Blk w1 w.heap.size 51 #[.slice none 0 0, .slice none 0 0, .int .i64 0, .int .i64 0]) := hide (by rw [hw]; exact Blk.new _ _ _)
  have BW : Hid (Below w.heap.size w w1) := hide (by rw [hw]; exact (Below.refl _ _).alloc (Nat.le_refl _) _)
  rw [← hw]
  obtain ⟨g5, hg⟩ : ∃ g, g = w.heap.size := ⟨_, rfl⟩
  have G5 := hide hg
  rw [← hg] at X5 ⊢
  clear hw hg
  replace SP := hide (SP.out.bel BW.out)
  replace HP := hide (HP.out.below BW.out)
  go_wp2_with fail
  refine (ld_new w1 n h1 h2).mono ?_
  rintro r w2 ⟨d, rfl, hl⟩
  have L := hide hl
  clear hl
  go_wp2_with fail
  refine (rnew_yes n w2 h1 h2).mono ?_
  rintro r w3 ⟨As, cs, rfl, hrm, hb⟩
  have RM := hide (hrm.dn L.out.sz)
  replace L := hide (L.out.below hb)
  clear hrm hb
  obtain ⟨D, hD⟩ : ∃ D, D = freshD n := ⟨_, rfl⟩
  rw [← hD] at RM L ⊢
  have HD := hide (show D.left < 0 ∧ D.queue = [] ∧ D.sure.length = n ∧ D.steps = 0 by rw [hD]; exact ⟨fresh_l _, rfl, fresh_len _, rfl⟩)
  clear hD
  unfold refV
  go_upto_region 5 with fail
  obtain ⟨Aq, hAq⟩ : ∃ x : Option Addr, x = none := ⟨_, rfl⟩
  obtain ⟨cq, hcq⟩ : ∃ x : Nat, x = 0 := ⟨_, rfl⟩
  have hq0 : (0 : Nat) = D.queue.length := by rw [HD.out.2.1]; rfl
  obtain ⟨w4, hw⟩ : ∃ W, W = w3.alloc (.cells #[.slice As D.sure.length cs, .slice none D.queue.length 0, .int .i64 (D.steps : Int), .int .i64 D.left] 51) := ⟨_, rfl⟩
  have ba := (show Below w3.heap.size w3 w4 by rw [hw]; exact (Below.refl _ _).alloc (Nat.le_refl _) _)
  have X9 : Hid (Blk w4 w3.heap.size 51 #[.slice As D.sure.length cs, .slice none D.queue.length 0, .int .i64 (D.steps : Int), .int .i64 D.left]) := hide (by rw [hw]; exact Blk.new _ _ _)
  rw [← hw]
  obtain ⟨g9, hg⟩ : ∃ g, g = w3.heap.size := ⟨_, rfl⟩
  have G9 := hide (show w1.heap.size ≤ g9 by rw [hg]; exact L.out.sz)
  have G59 := hide (show g9 ≠ g5 by have := X5.out.lt; have := G9.out; omega)
  rw [← hg] at X9 ⊢
  rw [← hAq, ← hcq] at X9 RM
  replace L := hide (L.out.below ba)
  replace RM := hide (RM.out.below ba)
  clear hw hg ba hAq hcq hq0
  go_wp2_with fail
  go_loopw [11] (fun y wr => ∃ (i : Nat) (D : Dsk) (As : Option Addr) (cs : Nat) (Aq : Option Addr) (cq : Nat), i ≤ 12 ∧ y = .int .i64 (i : Int) ∧ LD w1 wr d D ∧ RefM wr w1.heap.size As cs Aq cq D ∧ Blk wr g9 51 #[.slice As D.sure.length cs, .slice Aq D.queue.length cq, .int .i64 (D.steps : Int), .int .i64 D.left] ∧ D.left < 0 ∧ D.queue = [] ∧ D.sure.length = n ∧ D.steps ≤ 300 * i) (fun y _ => 12 - (intOf y).toNat)
  case atStart => exact ⟨0, D, As, cs, Aq, cq, Nat.zero_le _, rfl, L.out, RM.out, X9.out, HD.out.1, HD.out.2.1, HD.out.2.2.1, by rw [HD.out.2.2.2]; exact Nat.zero_le _⟩
  case round =>
    clear L RM X9 HD
    obtain ⟨i, D, As, cs, Aq, cq, hi, rfl, hl, hrm, hx9, hL, hQ, hN, hS⟩ := hrel
    have L := hide hl
    have RM := hide hrm
    have X9 := hide hx9
    have HD := hide (show D.left < 0 ∧ D.queue = [] ∧ D.sure.length = n ∧ D.steps ≤ 300 * i from ⟨hL, hQ, hN, hS⟩)
    clear hl hrm hx9 hL hQ hN hS
    by_cases hlt : i < m ∧ i < 12
    rotate_left
    · have X5W := hide (X5.out.below L.out.bel)
      rcases (show ¬ i < m ∨ (i < m ∧ ¬ i < 12) by omega) with h | ⟨h, h'⟩
      · have h1 : ¬ (i : Int) < (m : Int) := by omega
        clear h hlt
        go_upto_region 17 with fail
        obtain ⟨c0, c1, c2, c3, -⟩ := cell4 X9.out
        refine wp_region_noPanic ?_
        refine wp_region_held_drew (S := (fun w' => w'.cell? ⟨g9, 0, none⟩ = some (.slice As D.sure.length cs) ∧ w'.cell? ⟨g9, 1, none⟩ = some (.slice Aq D.queue.length cq) ∧ w'.cell? ⟨g9, 2, none⟩ = some (.int .i64 (D.steps : Int)) ∧ w'.cell? ⟨g9, 3, none⟩ = some (.int .i64 D.left))) (by kernel_rfl) ?_ (fun hHeld => ?_)
        · ((try dsimp only) <;> (first | trivial | assumption | go_keep))
        clear c0 c1 c2 c3
        replace L := hide L.out.drew
        replace RM := hide (RM.out.below (Below.refl _ _).drew)
        replace X9 := hide X9.out.drew
        replace X5W := hide X5W.out.drew
        generalize wr.drew = wd at *
        refine wpAnyH_take (i := 0) (v := ?_) (by simp only [List.getElem?_toArray, List.getElem?_cons_succ, List.getElem?_cons_zero]; rfl) (by kernel_rfl) (by kernel_rfl) (by kernel_rfl) (fun _ _ _ h => h) (Or.inl ⟨by rfl, ?_⟩) (by assumption) ?_
        rotate_left 1
        · (intro w hSw; (try dsimp only at hSw); go_simp; try with_reducible rfl)
        try simp only [Act.put, List.setIfInBounds_toArray, List.set_cons_zero, List.set_cons_succ]
        refine wpAnyH_take (i := 1) (v := ?_) (by simp only [List.getElem?_toArray, List.getElem?_cons_succ, List.getElem?_cons_zero]; rfl) (by kernel_rfl) (by kernel_rfl) (by kernel_rfl) (fun _ _ _ h => h) (Or.inl ⟨by rfl, ?_⟩) (by assumption) ?_
        rotate_left 1
        · (intro w hSw; (try dsimp only at hSw); go_simp; try with_reducible rfl)
        try simp only [Act.put, List.setIfInBounds_toArray, List.set_cons_zero, List.set_cons_succ]
        refine wpAnyH_take (i := 2) (v := ?_) (by simp only [List.getElem?_toArray, List.getElem?_cons_succ, List.getElem?_cons_zero]; rfl) (by kernel_rfl) (by kernel_rfl) (by kernel_rfl) (fun _ _ _ h => h) (Or.inl ⟨by rfl, ?_⟩) (by assumption) ?_
        rotate_left 1
        · (intro w hSw; (try dsimp only at hSw); go_simp; try with_reducible rfl)
        try simp only [Act.put, List.setIfInBounds_toArray, List.set_cons_zero, List.set_cons_succ]
        obtain ⟨d0, d1, d2, d3, f0, f1, f2, f3⟩ := cell4 X5W.out
        refine wpAnyH_ready (rs := [3]) (by kernel_rfl) (by simp) ?_
        refine AllReadyH.cons (by simp only [List.getElem?_toArray, List.getElem?_cons_succ, List.getElem?_cons_zero]; rfl) (fun K hK => ?_) ?_
        rotate_left 1
        · exact AllReadyH.nil
        go_simp
        obtain ⟨W, eW, S1, S2, S3, S4⟩ := set4x X5W.out (.slice As D.sure.length cs) (.slice Aq D.queue.length cq) (.int .i64 (D.steps : Int)) (.int .i64 D.left); obtain ⟨c0, c1, c2, c3, -⟩ := cell4 (S2 _ _ _ X9.out G59.out); have hcc := And.intro c0 (And.intro c1 (And.intro c2 c3)); clear c0 c1 c2 c3; rw [eW]; clear eW
        refine hK.out _ _ ?_ (fun hHeld2 => ?_)
        · ((try dsimp only) <;> (first | trivial | assumption | go_keep))
        clear hHeld
        have hHeld := hHeld2
        clear hHeld2 hK K
        try simp only [Act.put, List.setIfInBounds_toArray, List.set_cons_zero, List.set_cons_succ]
        clear d0 d1 d2 d3 f0 f1 f2 f3 hHeld
        have hHeld := hcc
        clear hcc
        refine wpAnyH_take (i := 4) (v := ?_) (by simp only [List.getElem?_toArray, List.getElem?_cons_succ, List.getElem?_cons_zero]; rfl) (by kernel_rfl) (by kernel_rfl) (by kernel_rfl) (fun _ _ _ h => h) (Or.inl ⟨by rfl, ?_⟩) (by assumption) ?_
        rotate_left 1
        · (intro w hSw; (try dsimp only at hSw); go_simp; try with_reducible rfl)
        try simp only [Act.put, List.setIfInBounds_toArray, List.set_cons_zero, List.set_cons_succ]
        refine wpAnyH_done (by kernel_rfl) ?_ _
        refine NoPanic.normal ?_
        clear hHeld
        go_wp2_with fail
        have KT := kt_box S4 X5W.out (base := w.heap.size) (by rw [G5.out]; exact Nat.le_refl _)
        refine ret_wt rfl rfl rfl rfl S1 ⟨D, d, As, cs, Aq, cq, rfl, (L.out.base BW.out).kt KT (by decide) (by decide) (by decide), (RM.out.dn BW.out.size).kt KT (by decide) (by decide), HD.out.1, HD.out.2.1, HD.out.2.2.1, by have := HD.out.2.2.2; omega⟩
      · have h1 : (i : Int) < (m : Int) := by omega
        have h2 : ¬ (i : Int) < 12 := by omega
        clear h h' hlt
        go_upto_region 17 with fail
        obtain ⟨c0, c1, c2, c3, -⟩ := cell4 X9.out
        refine wp_region_noPanic ?_
        refine wp_region_held_drew (S := (fun w' => w'.cell? ⟨g9, 0, none⟩ = some (.slice As D.sure.length cs) ∧ w'.cell? ⟨g9, 1, none⟩ = some (.slice Aq D.queue.length cq) ∧ w'.cell? ⟨g9, 2, none⟩ = some (.int .i64 (D.steps : Int)) ∧ w'.cell? ⟨g9, 3, none⟩ = some (.int .i64 D.left))) (by kernel_rfl) ?_ (fun hHeld => ?_)
        · ((try dsimp only) <;> (first | trivial | assumption | go_keep))
        clear c0 c1 c2 c3
        replace L := hide L.out.drew
        replace RM := hide (RM.out.below (Below.refl _ _).drew)
        replace X9 := hide X9.out.drew
        replace X5W := hide X5W.out.drew
        generalize wr.drew = wd at *
        refine wpAnyH_take (i := 0) (v := ?_) (by simp only [List.getElem?_toArray, List.getElem?_cons_succ, List.getElem?_cons_zero]; rfl) (by kernel_rfl) (by kernel_rfl) (by kernel_rfl) (fun _ _ _ h => h) (Or.inl ⟨by rfl, ?_⟩) (by assumption) ?_
        rotate_left 1
        · (intro w hSw; (try dsimp only at hSw); go_simp; try with_reducible rfl)
        try simp only [Act.put, List.setIfInBounds_toArray, List.set_cons_zero, List.set_cons_succ]
        refine wpAnyH_take (i := 1) (v := ?_) (by simp only [List.getElem?_toArray, List.getElem?_cons_succ, List.getElem?_cons_zero]; rfl) (by kernel_rfl) (by kernel_rfl) (by kernel_rfl) (fun _ _ _ h => h) (Or.inl ⟨by rfl, ?_⟩) (by assumption) ?_
        rotate_left 1
        · (intro w hSw; (try dsimp only at hSw); go_simp; try with_reducible rfl)
        try simp only [Act.put, List.setIfInBounds_toArray, List.set_cons_zero, List.set_cons_succ]
        refine wpAnyH_take (i := 2) (v := ?_) (by simp only [List.getElem?_toArray, List.getElem?_cons_succ, List.getElem?_cons_zero]; rfl) (by kernel_rfl) (by kernel_rfl) (by kernel_rfl) (fun _ _ _ h => h) (Or.inl ⟨by rfl, ?_⟩) (by assumption) ?_
        rotate_left 1
        · (intro w hSw; (try dsimp only at hSw); go_simp; try with_reducible rfl)
        try simp only [Act.put, List.setIfInBounds_toArray, List.set_cons_zero, List.set_cons_succ]
        obtain ⟨d0, d1, d2, d3, f0, f1, f2, f3⟩ := cell4 X5W.out
        refine wpAnyH_ready (rs := [3]) (by kernel_rfl) (by simp) ?_
        refine AllReadyH.cons (by simp only [List.getElem?_toArray, List.getElem?_cons_succ, List.getElem?_cons_zero]; rfl) (fun K hK => ?_) ?_
        rotate_left 1
        · exact AllReadyH.nil
        go_simp
        obtain ⟨W, eW, S1, S2, S3, S4⟩ := set4x X5W.out (.slice As D.sure.length cs) (.slice Aq D.queue.length cq) (.int .i64 (D.steps : Int)) (.int .i64 D.left); obtain ⟨c0, c1, c2, c3, -⟩ := cell4 (S2 _ _ _ X9.out G59.out); have hcc := And.intro c0 (And.intro c1 (And.intro c2 c3)); clear c0 c1 c2 c3; rw [eW]; clear eW
        refine hK.out _ _ ?_ (fun hHeld2 => ?_)
        · ((try dsimp only) <;> (first | trivial | assumption | go_keep))
        clear hHeld
        have hHeld := hHeld2
        clear hHeld2 hK K
        try simp only [Act.put, List.setIfInBounds_toArray, List.set_cons_zero, List.set_cons_succ]
        clear d0 d1 d2 d3 f0 f1 f2 f3 hHeld
        have hHeld := hcc
        clear hcc
        refine wpAnyH_take (i := 4) (v := ?_) (by simp only [List.getElem?_toArray, List.getElem?_cons_succ, List.getElem?_cons_zero]; rfl) (by kernel_rfl) (by kernel_rfl) (by kernel_rfl) (fun _ _ _ h => h) (Or.inl ⟨by rfl, ?_⟩) (by assumption) ?_
        rotate_left 1
        · (intro w hSw; (try dsimp only at hSw); go_simp; try with_reducible rfl)
        try simp only [Act.put, List.setIfInBounds_toArray, List.set_cons_zero, List.set_cons_succ]
        refine wpAnyH_done (by kernel_rfl) ?_ _
        refine NoPanic.normal ?_
        clear hHeld
        go_wp2_with fail
        have KT := kt_box S4 X5W.out (base := w.heap.size) (by rw [G5.out]; exact Nat.le_refl _)
        refine ret_wt rfl rfl rfl rfl S1 ⟨D, d, As, cs, Aq, cq, rfl, (L.out.base BW.out).kt KT (by decide) (by decide) (by decide), (RM.out.dn BW.out.size).kt KT (by decide) (by decide), HD.out.1, HD.out.2.1, HD.out.2.2.1, by have := HD.out.2.2.2; omega⟩
    obtain ⟨hj1, hj2⟩ := hlt
    have h1 : (i : Int) < (m : Int) := by omega
    have h2 : (i : Int) < 12 := by omega
    obtain ⟨⟨a, v, data⟩, hp⟩ : ∃ p, ps[i]? = some p := ⟨_, List.getElem?_eq_getElem (by rw [HP.out.1]; exact hj1)⟩
    obtain ⟨b, off, A1, n1, c1, A2, n2, c2, A3, m3, c3, rfl, hpi⟩ := HP.out.2 i _ hp
    have HF : Hid (FisAt 0 w1.heap.size w1 A1 n1 v.fs) := hide hpi.f
    have HI : Hid (IntsAt 0 w1.heap.size w1 A2 n2 v.is) := hide hpi.i
    have H3 : Hid (By w1 w1.heap.size A3 m3 data) := hide hpi.d
    have HB : Hid (I64 a ∧ m3 ≤ c3 ∧ n1 ≤ 9223372036854775807 ∧ n2 ≤ 9223372036854775807 ∧ m3 ≤ 9223372036854775807) := hide ⟨hpi.a64, hpi.hc, hpi.h1, hpi.h2, hpi.h3⟩
    have HL : Hid (∀ f ∈ v.fs, (∀ x ∈ f.ls, I64 x) ∧ f.ls.length ≤ 9223372036854775807) := hide hpi.hl
    have HLN := hide (And.intro HF.out.len (IntsAt.len HI.out))
    obtain ⟨p0, p1, p2, p3, p4, p5, p6, p7, p8⟩ := pcI_cells (hpi.below L.out.bel)
    clear hp hpi
    go_upto_region 9 with fail
    clear p0 p1 p2 p3 p4 p5 p6 p7 p8
    obtain ⟨w5, hw⟩ : ∃ W, W = wr.alloc (.cells #[.int .i64 a, .int .i64 v.e, .int .i64 v.c, .int .i64 v.i, .int .i64 v.p, .int .i64 v.x, .slice A1 n1 c1, .slice A2 n2 c2, .slice A3 m3 c3] 28) := ⟨_, rfl⟩
    have X12 : Hid (Blk w5 wr.heap.size 28 #[.int .i64 a, .int .i64 v.e, .int .i64 v.c, .int .i64 v.i, .int .i64 v.p, .int .i64 v.x, .slice A1 n1 c1, .slice A2 n2 c2, .slice A3 m3 c3]) := hide (by rw [hw]; exact Blk.new _ _ _)
    have ba := (show Below wr.heap.size wr w5 by rw [hw]; exact (Below.refl _ _).alloc (Nat.le_refl _) _)
    rw [← hw]
    obtain ⟨g12, hg⟩ : ∃ g, g = wr.heap.size := ⟨_, rfl⟩
    have G12 := hide (show g9 < g12 by rw [hg]; exact X9.out.lt)
    rw [← hg] at X12 ⊢
    replace L := hide (L.out.below ba)
    replace RM := hide (RM.out.below ba)
    replace X9 := hide (X9.out.below ba)
    clear hw hg ba
    have FC := hide (few15 w5 a v A1 A2 A3 n1 c1 n2 c2 m3 c3 _ _ (HF.out.bx L.out.bel) HB.out.2.2.1 HB.out.2.2.2.1 HB.out.2.2.2.2 (fun f hf => (HL.out f hf).2))
    unfold rfC at FC
    obtain ⟨x0, x1, x2, x3, x4, x5, x6, x7, x8⟩ := op9S X12.out
    go_wp2_with fail
    clear x0 x1 x2 x3 x4 x5 x6 x7 x8
    refine FC.out.mono ?_
    rintro r w6 ⟨⟨ok, rfl, hfw⟩, hb⟩
    replace L := hide (L.out.below hb)
    replace RM := hide (RM.out.below hb)
    replace X9 := hide (X9.out.below hb)
    replace X12 := hide (X12.out.below hb)
    clear hb FC
    cases ok with
    | false =>
      clear hfw
      go_wp2_with fail
      go_roundw
      case rel => exact ⟨i + 1, D, As, cs, Aq, cq, by omega, by go_num, L.out, RM.out, X9.out, HD.out.1, HD.out.2.1, HD.out.2.2.1, by have := HD.out.2.2.2; omega⟩
      case measure => simp [intOf]; omega
    | true =>
      obtain ⟨h40, h120, h200, hls⟩ := hfw rfl
      have hls2 : lsN v.fs ≤ 120 := by omega
      clear hfw
      have hfl := hide (show ∀ f ∈ v.fs, f.ls.length ≤ 1000000 from fun f hf => by have := lsN_all hls2 f hf; omega)
      obtain ⟨nb, hnb⟩ : ∃ n, n = min v.n 200 - 2 := ⟨_, rfl⟩
      have HNB := hide (show nb ≤ 198 by omega)
      have BK := hide (show ∀ W, Below w1.heap.size w1 W → Calls Tryd.prog 12 #[.agg (partC v.e v.c v.i v.p v.x A1 n1 c1 A2 n2 c2), .slice A3 m3 c3] W fun r w' => ∃ A' c' gs, r = .returned (.slice A' nb c') ∧ RowT 5 W.heap.size w' A' c' gs (blkS nb data) ∧ Below W.heap.size W w' from fun W hb => by
        rw [hnb]
        exact blocks_any v A1 A2 n1 c1 n2 c2 _ _ A3 m3 c3 w1.heap.size data W (HF.out.bx hb) HLN.out.2 (by omega) (by omega) (by omega) (H3.out.below hb) hb.size (by omega) HB.out.2.1)
      unfold partC at BK
      clear hnb
      obtain ⟨x0, x1, x2, x3, x4, x5, x6, x7, x8⟩ := op9S X12.out
      go_wp2_with fail
      clear x0 x1 x2 x3 x4 x5 x6 x7 x8
      refine (BK.out w6 L.out.bel).mono ?_
      rintro r w7 ⟨A', c', gs, rfl, hR, hb⟩
      have RT := hide (hR.bq L.out.sz)
      replace L := hide (L.out.below hb)
      replace RM := hide (RM.out.below hb)
      replace X9 := hide (X9.out.below hb)
      replace X12 := hide (X12.out.below hb)
      clear hR hb
      have OW := hide (own_any v.e v.c v.i v.p v.x A1 A2 n1 c1 n2 c2 _ _ _ _ v.fs v.is w7 (HF.out.bx L.out.bel) (RwAt.bx HI.out L.out.bel) (by omega) (by omega) hfl.out)
      unfold partC at OW
      obtain ⟨x0, x1, x2, x3, x4, x5, x6, x7, x8⟩ := op9S X12.out
      go_wp2_with fail
      clear x0 x1 x2 x3 x4 x5 x6 x7 x8
      refine OW.out.mono ?_
      rintro r w8 ⟨B1, d1, B2, d2, rfl, hF, hI, hb⟩
      have BF := hide (hF.dnW (lo' := 0) (base' := w1.heap.size) (Nat.le_refl _) (Nat.zero_le _))
      have BI := hide (show IntsAt 0 w1.heap.size w8 B2 n2 v.is from RwAt.dnW hI (Nat.le_refl _) (Nat.zero_le _))
      replace L := hide (L.out.below hb)
      replace RM := hide (RM.out.below hb)
      replace X9 := hide (X9.out.below hb)
      replace X12 := hide (X12.out.below hb)
      replace RT := hide (RT.out.below hb)
      clear hF hI hb OW
      go_upto_region 12 with fail
      obtain ⟨w9, hw⟩ : ∃ W, W = w8.alloc (.cells #[.int .i64 v.e, .int .i64 v.c, .int .i64 v.i, .int .i64 v.p, .int .i64 v.x, .slice B1 n1 d1, .slice B2 n2 d2] 25) := ⟨_, rfl⟩
      have X14 : Hid (Blk w9 w8.heap.size 25 #[.int .i64 v.e, .int .i64 v.c, .int .i64 v.i, .int .i64 v.p, .int .i64 v.x, .slice B1 n1 d1, .slice B2 n2 d2]) := hide (by rw [hw]; exact Blk.new _ _ _)
      have ba := (show Below w8.heap.size w8 w9 by rw [hw]; exact (Below.refl _ _).alloc (Nat.le_refl _) _)
      rw [← hw]
      obtain ⟨g14, hg⟩ : ∃ g, g = w8.heap.size := ⟨_, rfl⟩
      have G14 := hide (show g12 < g14 by rw [hg]; exact X12.out.lt)
      rw [← hg] at X14 ⊢
      replace L := hide (L.out.below ba)
      replace RM := hide (RM.out.below ba)
      replace X9 := hide (X9.out.below ba)
      replace X12 := hide (X12.out.below ba)
      replace RT := hide (RT.out.below ba)
      replace BF := hide (BF.out.below ba)
      replace BI := hide (RwAt.below BI.out ba)
      clear hw hg ba
      have WC := hide (write_any w1 w9 d D L.out a HB.out.1 v B1 B2 n1 d1 n2 d2 _ _ SP.out BF.out BI.out (by omega) (by omega) (by omega) (fun f hf => (HL.out f hf).1) A' nb c' (blkS nb data) (by have := RT.out.bs; rw [blkS_len] at this; exact this) (by have := HNB.out; omega) (by have := HD.out.2.2.2; omega) (by rw [HD.out.2.1]; exact Nat.zero_le _))
      unfold partC at WC
      have HW := hide (And.intro (wrS_go HD.out.1 HD.out.2.1 a v (blkS nb data)) (And.intro (wrS_bdW D a v (blkS nb data)).1 (wrS_len D a v (blkS nb data))))
      obtain ⟨R, hR⟩ : ∃ R, R = wrS D a v (blkS nb data) := ⟨_, rfl⟩
      have HR := hide hR
      rw [← hR] at WC HW
      clear hR
      obtain ⟨x0, x1, x2, x3, x4, x5, x6, x7, x8⟩ := op9S X12.out
      obtain ⟨y0, y1, y2, y3, y4, y5, y6⟩ := op7S X14.out
      go_wp2_with fail
      clear x0 x1 x2 x3 x4 x5 x6 x7 x8 y0 y1 y2 y3 y4 y5 y6
      refine WC.out.mono ?_
      rintro r wa ⟨rfl, hst⟩
      have K := hide (stp_kt L.out hst)
      replace L := hide hst.ld
      replace RM := hide (RM.out.kt K.out (by decide) (by decide))
      replace X9 := hide (X9.out.kt K.out (by decide))
      replace X12 := hide (X12.out.kt K.out (by decide))
      replace X14 := hide (X14.out.kt K.out (by decide))
      replace BF := hide (BF.out.kt K.out (by decide) (by decide))
      replace BI := hide (RwAt.kt BI.out K.out (by decide))
      clear hst WC K RT
      go_upto_region 14 with fail
      go_cut [16] (fun y wx => ∃ (As' : Option Addr) (cs' : Nat) (Aq' : Option Addr) (cq' : Nat), y = .int .i64 R.1 ∧ LD w1 wx d R.2 ∧ RefM wx w1.heap.size As' cs' Aq' cq' R.2 ∧ Blk wx g9 51 #[.slice As' R.2.sure.length cs', .slice Aq' R.2.queue.length cq', .int .i64 (R.2.steps : Int), .int .i64 R.2.left] ∧ Blk wx g12 28 #[.int .i64 a, .int .i64 v.e, .int .i64 v.c, .int .i64 v.i, .int .i64 v.p, .int .i64 v.x, .slice A1 n1 c1, .slice A2 n2 c2, .slice A3 m3 c3] ∧ Blk wx g14 25 #[.int .i64 v.e, .int .i64 v.c, .int .i64 v.i, .int .i64 v.p, .int .i64 v.x, .slice B1 n1 d1, .slice B2 n2 d2] ∧ FisAt 0 w1.heap.size wx B1 n1 v.fs ∧ IntsAt 0 w1.heap.size wx B2 n2 v.is)
      case first =>
        have hcc := op9S X12.out
        refine wp_region_noPanic ?_
        refine wp_region_held_drew (S := (fun w' => w'.cell? ⟨g12, 0, none⟩ = some (.int .i64 a) ∧ w'.cell? ⟨g12, 1, none⟩ = some (.int .i64 v.e) ∧ w'.cell? ⟨g12, 2, none⟩ = some (.int .i64 v.c) ∧ w'.cell? ⟨g12, 3, none⟩ = some (.int .i64 v.i) ∧ w'.cell? ⟨g12, 4, none⟩ = some (.int .i64 v.p) ∧ w'.cell? ⟨g12, 5, none⟩ = some (.int .i64 v.x) ∧ w'.cell? ⟨g12, 6, none⟩ = some (.slice A1 n1 c1) ∧ w'.cell? ⟨g12, 7, none⟩ = some (.slice A2 n2 c2) ∧ w'.cell? ⟨g12, 8, none⟩ = some (.slice A3 m3 c3))) (by kernel_rfl) ?_ (fun hHeld => ?_)
        · ((try dsimp only) <;> (first | trivial | assumption | go_keep))
        clear hcc
        replace L := hide L.out.drew
        replace RM := hide (RM.out.below (Below.refl _ _).drew)
        replace X9 := hide X9.out.drew
        replace X12 := hide X12.out.drew
        replace X14 := hide X14.out.drew
        replace BF := hide (BF.out.below (Below.refl _ _).drew)
        replace BI := hide (RwAt.below BI.out (Below.refl _ _).drew)
        generalize wa.drew = wd at *
        have BE := hide (Below.refl wd.heap.size wd)
        refine wpAnyH_take (i := 1) (v := ?_) (by simp only [List.getElem?_toArray, List.getElem?_cons_succ, List.getElem?_cons_zero]; rfl) (by kernel_rfl) (by kernel_rfl) (by kernel_rfl) (fun _ _ _ h => h) (Or.inl ⟨by rfl, ?_⟩) (by assumption) ?_
        rotate_left 1
        · (intro w hSw; (try dsimp only at hSw); go_simp; try with_reducible rfl)
        try simp only [Act.put, List.setIfInBounds_toArray, List.set_cons_zero, List.set_cons_succ]
        refine wpAnyH_take (i := 2) (v := ?_) (by simp only [List.getElem?_toArray, List.getElem?_cons_succ, List.getElem?_cons_zero]; rfl) (by kernel_rfl) (by kernel_rfl) (by kernel_rfl) (fun _ _ _ h => h) (Or.inl ⟨by rfl, ?_⟩) (by assumption) ?_
        rotate_left 1
        · (intro w hSw; (try dsimp only at hSw); go_simp; try with_reducible rfl)
        try simp only [Act.put, List.setIfInBounds_toArray, List.set_cons_zero, List.set_cons_succ]
        refine wpAnyH_take (i := 3) (v := ?_) (by simp only [List.getElem?_toArray, List.getElem?_cons_succ, List.getElem?_cons_zero]; rfl) (by kernel_rfl) (by kernel_rfl) (by kernel_rfl) (fun _ _ _ h => h) (Or.inl ⟨by rfl, ?_⟩) (by assumption) ?_
        rotate_left 1
        · (intro w hSw; (try dsimp only at hSw); go_simp; try with_reducible rfl)
        try simp only [Act.put, List.setIfInBounds_toArray, List.set_cons_zero, List.set_cons_succ]
        refine wpAnyH_take (i := 4) (v := ?_) (by simp only [List.getElem?_toArray, List.getElem?_cons_succ, List.getElem?_cons_zero]; rfl) (by kernel_rfl) (by kernel_rfl) (by kernel_rfl) (fun _ _ _ h => h) (Or.inl ⟨by rfl, ?_⟩) (by assumption) ?_
        rotate_left 1
        · (intro w hSw; (try dsimp only at hSw); go_simp; try with_reducible rfl)
        try simp only [Act.put, List.setIfInBounds_toArray, List.set_cons_zero, List.set_cons_succ]
        refine wpAnyH_take (i := 5) (v := ?_) (by simp only [List.getElem?_toArray, List.getElem?_cons_succ, List.getElem?_cons_zero]; rfl) (by kernel_rfl) (by kernel_rfl) (by kernel_rfl) (fun _ _ _ h => h) (Or.inl ⟨by rfl, ?_⟩) (by assumption) ?_
        rotate_left 1
        · (intro w hSw; (try dsimp only at hSw); go_simp; try with_reducible rfl)
        try simp only [Act.put, List.setIfInBounds_toArray, List.set_cons_zero, List.set_cons_succ]
        refine wpAnyH_take (i := 6) (v := ?_) (by simp only [List.getElem?_toArray, List.getElem?_cons_succ, List.getElem?_cons_zero]; rfl) (by kernel_rfl) (by kernel_rfl) (by kernel_rfl) (fun _ _ _ h => h) (Or.inl ⟨by rfl, ?_⟩) (by assumption) ?_
        rotate_left 1
        · (intro w hSw; (try dsimp only at hSw); go_simp; try with_reducible rfl)
        try simp only [Act.put, List.setIfInBounds_toArray, List.set_cons_zero, List.set_cons_succ]
        refine wpAnyH_take (i := 7) (v := ?_) (by simp only [List.getElem?_toArray, List.getElem?_cons_succ, List.getElem?_cons_zero]; rfl) (by kernel_rfl) (by kernel_rfl) (by kernel_rfl) (fun _ _ _ h => h) (Or.inl ⟨by rfl, ?_⟩) (by assumption) ?_
        rotate_left 1
        · (intro w hSw; (try dsimp only at hSw); go_simp; try with_reducible rfl)
        try simp only [Act.put, List.setIfInBounds_toArray, List.set_cons_zero, List.set_cons_succ]
        refine wpAnyH_take (i := 8) (v := ?_) (by simp only [List.getElem?_toArray, List.getElem?_cons_succ, List.getElem?_cons_zero]; rfl) (by kernel_rfl) (by kernel_rfl) (by kernel_rfl) (fun _ _ _ h => h) (Or.inl ⟨by rfl, ?_⟩) (by assumption) ?_
        rotate_left 1
        · (intro w hSw; (try dsimp only at hSw); go_simp; try with_reducible rfl)
        try simp only [Act.put, List.setIfInBounds_toArray, List.set_cons_zero, List.set_cons_succ]
        have BK2 := BK.out wd L.out.bel
        refine wpAnyH_ready (rs := [0, 9]) (by kernel_rfl) (by simp) ?_
        refine AllReadyH.cons (by simp only [List.getElem?_toArray, List.getElem?_cons_succ, List.getElem?_cons_zero]; rfl) (fun K hK => ?_) ?_
        rotate_left 1
        refine AllReadyH.cons (by simp only [List.getElem?_toArray, List.getElem?_cons_succ, List.getElem?_cons_zero]; rfl) (fun K hK => ?_) ?_
        rotate_left 1
        exact AllReadyH.nil
        ·
          obtain ⟨c0, c1, c2, c3, -⟩ := cell4 (X9.out.below BE.out)
          go_simp
          refine hK.out _ _ ?_ (fun hHeld2 => ?_)
          · ((try dsimp only) <;> (first | trivial | assumption | go_keep))
          clear hHeld
          have hHeld := hHeld2
          clear hHeld2 hK K
          try simp only [Act.put, List.setIfInBounds_toArray, List.set_cons_zero, List.set_cons_succ]
          clear c0 c1 c2 c3
          refine wpAnyH_ready (rs := [9]) (by kernel_rfl) (by simp) ?_
          refine AllReadyH.cons (by simp only [List.getElem?_toArray, List.getElem?_cons_succ, List.getElem?_cons_zero]; rfl) (fun K hK => ?_) ?_
          rotate_left 1
          · exact AllReadyH.nil
          go_simp
          refine BK2.mono ?_; rintro r we ⟨A6, c6, gs6, rfl, hR, hb⟩; have RT6 := hide hR; replace BE := hide hb; have hcc := op9S (X12.out.below hb); clear hR hb
          refine hK.out _ _ ?_ (fun hHeld2 => ?_)
          · ((try dsimp only) <;> (first | trivial | assumption | go_keep))
          clear hHeld
          have hHeld := hHeld2
          clear hHeld2 hK K
          try simp only [Act.put, List.setIfInBounds_toArray, List.set_cons_zero, List.set_cons_succ]
          clear hHeld BK2
          have hHeld := hcc
          clear hcc
          have TX := texts15 we A6 nb c6 (blkS nb data) (by have := RT6.out.txs; rw [blkS_len] at this; exact this) (by have := HNB.out; omega)
          refine wpAnyH_ready (rs := [10]) (by kernel_rfl) (by simp) ?_
          refine AllReadyH.cons (by simp only [List.getElem?_toArray, List.getElem?_cons_succ, List.getElem?_cons_zero]; rfl) (fun K hK => ?_) ?_
          rotate_left 1
          · exact AllReadyH.nil
          go_simp
          refine TX.mono ?_; rintro r wf ⟨A7, c7, rfl, ho, hb⟩; have O7 := hide ho; replace BE := hide (BE.out.trans (hb.mono BE.out.size)); have hcc := op9S (X12.out.below BE.out); clear ho hb
          refine hK.out _ _ ?_ (fun hHeld2 => ?_)
          · ((try dsimp only) <;> (first | trivial | assumption | go_keep))
          clear hHeld
          have hHeld := hHeld2
          clear hHeld2 hK K
          try simp only [Act.put, List.setIfInBounds_toArray, List.set_cons_zero, List.set_cons_succ]
          clear hHeld TX RT6
          have hHeld := hcc
          clear hcc
          have RW := rwrite15 w1.heap.size As cs Aq cq D a HB.out.1 v A1 A2 n1 c1 n2 c2 _ _ _ _ A7 nb c7 _ (blkS nb data) wf (RM.out.below BE.out) (Nat.le_trans L.out.sz BE.out.size) (HF.out.bx (L.out.below BE.out).bel) (RwAt.bx HI.out (L.out.below BE.out).bel) (by omega) (by omega) (by omega) (fun f hf => (HL.out f hf).1) (Sl.of_own O7.out) (Nat.le_refl _) (fun b hb => by have := blkS_64 _ _ b hb; omega) (by have := HNB.out; omega) (by have := HD.out.2.2.2; omega) (by rw [HD.out.2.1]; exact Nat.zero_le _)
          rw [← HR.out] at RW
          unfold partC refV at RW
          refine wpAnyH_ready (rs := [11]) (by kernel_rfl) (by simp) ?_
          refine AllReadyH.cons (by simp only [List.getElem?_toArray, List.getElem?_cons_succ, List.getElem?_cons_zero]; rfl) (fun K hK => ?_) ?_
          rotate_left 1
          · exact AllReadyH.nil
          go_simp
          refine RW.mono ?_; rintro r wg ⟨As4, cs4, Aq4, cq4, rfl, kk⟩; have RM4 := hide kk.rm; replace BE := hide (BE.out.trans (kk.bel.mono BE.out.size)); have hcc := op9S (X12.out.below BE.out); clear kk; unfold refV
          refine hK.out _ _ ?_ (fun hHeld2 => ?_)
          · ((try dsimp only) <;> (first | trivial | assumption | go_keep))
          clear hHeld
          have hHeld := hHeld2
          clear hHeld2 hK K
          try simp only [Act.put, List.setIfInBounds_toArray, List.set_cons_zero, List.set_cons_succ]
          clear hHeld RW
          have hHeld := hcc
          clear hcc
          refine wpAnyH_take (i := 12) (v := ?_) (by simp only [List.getElem?_toArray, List.getElem?_cons_succ, List.getElem?_cons_zero]; rfl) (by kernel_rfl) (by kernel_rfl) (by kernel_rfl) (fun _ _ _ h => h) (Or.inl ⟨by rfl, ?_⟩) (by assumption) ?_
          rotate_left 1
          · (intro w hSw; (try dsimp only at hSw); go_simp; try with_reducible rfl)
          try simp only [Act.put, List.setIfInBounds_toArray, List.set_cons_zero, List.set_cons_succ]
          refine wpAnyH_take (i := 13) (v := ?_) (by simp only [List.getElem?_toArray, List.getElem?_cons_succ, List.getElem?_cons_zero]; rfl) (by kernel_rfl) (by kernel_rfl) (by kernel_rfl) (fun _ _ _ h => h) (Or.inl ⟨by rfl, ?_⟩) (by assumption) ?_
          rotate_left 1
          · (intro w hSw; (try dsimp only at hSw); go_simp; try with_reducible rfl)
          try simp only [Act.put, List.setIfInBounds_toArray, List.set_cons_zero, List.set_cons_succ]
          refine wpAnyH_take (i := 14) (v := ?_) (by simp only [List.getElem?_toArray, List.getElem?_cons_succ, List.getElem?_cons_zero]; rfl) (by kernel_rfl) (by kernel_rfl) (by kernel_rfl) (fun _ _ _ h => h) (Or.inl ⟨by rfl, ?_⟩) (by assumption) ?_
          rotate_left 1
          · (intro w hSw; (try dsimp only at hSw); go_simp; try with_reducible rfl)
          try simp only [Act.put, List.setIfInBounds_toArray, List.set_cons_zero, List.set_cons_succ]
          obtain ⟨c0, c1, c2, c3, f0, f1, f2, f3⟩ := cell4 (X9.out.below BE.out)
          refine wpAnyH_ready (rs := [15]) (by kernel_rfl) (by simp) ?_
          refine AllReadyH.cons (by simp only [List.getElem?_toArray, List.getElem?_cons_succ, List.getElem?_cons_zero]; rfl) (fun K hK => ?_) ?_
          rotate_left 1
          · exact AllReadyH.nil
          go_simp
          obtain ⟨W, eW, S1, S2, S3, S4⟩ := set4x (X9.out.below BE.out) (.slice As4 R.2.sure.length cs4) (.slice Aq4 R.2.queue.length cq4) (.int .i64 (R.2.steps : Int)) (.int .i64 R.2.left); have hcc := op9S (S2 _ _ _ (X12.out.below BE.out) (by have := G12.out; omega)); rw [eW]; clear eW
          refine hK.out _ _ ?_ (fun hHeld2 => ?_)
          · ((try dsimp only) <;> (first | trivial | assumption | go_keep))
          clear hHeld
          have hHeld := hHeld2
          clear hHeld2 hK K
          try simp only [Act.put, List.setIfInBounds_toArray, List.set_cons_zero, List.set_cons_succ]
          clear c0 c1 c2 c3 f0 f1 f2 f3 hHeld
          have hHeld := hcc
          clear hcc
          refine wpAnyH_take (i := 16) (v := ?_) (by simp only [List.getElem?_toArray, List.getElem?_cons_succ, List.getElem?_cons_zero]; rfl) (by kernel_rfl) (by kernel_rfl) (by kernel_rfl) (fun _ _ _ h => h) (Or.inl ⟨by rfl, ?_⟩) (by assumption) ?_
          rotate_left 1
          · (intro w hSw; (try dsimp only at hSw); go_simp; try with_reducible rfl)
          try simp only [Act.put, List.setIfInBounds_toArray, List.set_cons_zero, List.set_cons_succ]
          refine wpAnyH_done (by kernel_rfl) ?_ _
          refine NoPanic.normal ?_
          clear hHeld
          have KT := kt_box S4 (X9.out.below BE.out) (base := w1.heap.size) G9.out
          go_wp2_with fail
          go_meet
          exact ⟨As4, cs4, Aq4, cq4, rfl, (L.out.below BE.out).kt KT (by decide) (by decide) (by decide), RM4.out.kt KT (by decide) (by decide), S1, S2 _ _ _ (X12.out.below BE.out) (by have := G12.out; omega), S2 _ _ _ (X14.out.below BE.out) (by have := G12.out; have := G14.out; omega), (BF.out.below BE.out).kt KT (by decide) (by decide), RwAt.kt (RwAt.below BI.out BE.out) KT (by decide)⟩
        ·
          go_simp
          refine BK2.mono ?_; rintro r we ⟨A6, c6, gs6, rfl, hR, hb⟩; have RT6 := hide hR; replace BE := hide hb; have hcc := op9S (X12.out.below hb); clear hR hb
          refine hK.out _ _ ?_ (fun hHeld2 => ?_)
          · ((try dsimp only) <;> (first | trivial | assumption | go_keep))
          clear hHeld
          have hHeld := hHeld2
          clear hHeld2 hK K
          try simp only [Act.put, List.setIfInBounds_toArray, List.set_cons_zero, List.set_cons_succ]
          clear hHeld BK2
          have hHeld := hcc
          clear hcc
          have TX := texts15 we A6 nb c6 (blkS nb data) (by have := RT6.out.txs; rw [blkS_len] at this; exact this) (by have := HNB.out; omega)
          refine wpAnyH_ready (rs := [0, 10]) (by kernel_rfl) (by simp) ?_
          refine AllReadyH.cons (by simp only [List.getElem?_toArray, List.getElem?_cons_succ, List.getElem?_cons_zero]; rfl) (fun K hK => ?_) ?_
          rotate_left 1
          refine AllReadyH.cons (by simp only [List.getElem?_toArray, List.getElem?_cons_succ, List.getElem?_cons_zero]; rfl) (fun K hK => ?_) ?_
          rotate_left 1
          exact AllReadyH.nil
          ·
            obtain ⟨c0, c1, c2, c3, -⟩ := cell4 (X9.out.below BE.out)
            go_simp
            refine hK.out _ _ ?_ (fun hHeld2 => ?_)
            · ((try dsimp only) <;> (first | trivial | assumption | go_keep))
            clear hHeld
            have hHeld := hHeld2
            clear hHeld2 hK K
            try simp only [Act.put, List.setIfInBounds_toArray, List.set_cons_zero, List.set_cons_succ]
            clear c0 c1 c2 c3
            refine wpAnyH_ready (rs := [10]) (by kernel_rfl) (by simp) ?_
            refine AllReadyH.cons (by simp only [List.getElem?_toArray, List.getElem?_cons_succ, List.getElem?_cons_zero]; rfl) (fun K hK => ?_) ?_
            rotate_left 1
            · exact AllReadyH.nil
            go_simp
            refine TX.mono ?_; rintro r wf ⟨A7, c7, rfl, ho, hb⟩; have O7 := hide ho; replace BE := hide (BE.out.trans (hb.mono BE.out.size)); have hcc := op9S (X12.out.below BE.out); clear ho hb
            refine hK.out _ _ ?_ (fun hHeld2 => ?_)
            · ((try dsimp only) <;> (first | trivial | assumption | go_keep))
            clear hHeld
            have hHeld := hHeld2
            clear hHeld2 hK K
            try simp only [Act.put, List.setIfInBounds_toArray, List.set_cons_zero, List.set_cons_succ]
            clear hHeld TX RT6
            have hHeld := hcc
            clear hcc
            have RW := rwrite15 w1.heap.size As cs Aq cq D a HB.out.1 v A1 A2 n1 c1 n2 c2 _ _ _ _ A7 nb c7 _ (blkS nb data) wf (RM.out.below BE.out) (Nat.le_trans L.out.sz BE.out.size) (HF.out.bx (L.out.below BE.out).bel) (RwAt.bx HI.out (L.out.below BE.out).bel) (by omega) (by omega) (by omega) (fun f hf => (HL.out f hf).1) (Sl.of_own O7.out) (Nat.le_refl _) (fun b hb => by have := blkS_64 _ _ b hb; omega) (by have := HNB.out; omega) (by have := HD.out.2.2.2; omega) (by rw [HD.out.2.1]; exact Nat.zero_le _)
            rw [← HR.out] at RW
            unfold partC refV at RW
            refine wpAnyH_ready (rs := [11]) (by kernel_rfl) (by simp) ?_
            refine AllReadyH.cons (by simp only [List.getElem?_toArray, List.getElem?_cons_succ, List.getElem?_cons_zero]; rfl) (fun K hK => ?_) ?_
            rotate_left 1
            · exact AllReadyH.nil
            go_simp
            refine RW.mono ?_; rintro r wg ⟨As4, cs4, Aq4, cq4, rfl, kk⟩; have RM4 := hide kk.rm; replace BE := hide (BE.out.trans (kk.bel.mono BE.out.size)); have hcc := op9S (X12.out.below BE.out); clear kk; unfold refV
            refine hK.out _ _ ?_ (fun hHeld2 => ?_)
            · ((try dsimp only) <;> (first | trivial | assumption | go_keep))
            clear hHeld
            have hHeld := hHeld2
            clear hHeld2 hK K
            try simp only [Act.put, List.setIfInBounds_toArray, List.set_cons_zero, List.set_cons_succ]
            clear hHeld RW
            have hHeld := hcc
            clear hcc
            refine wpAnyH_take (i := 12) (v := ?_) (by simp only [List.getElem?_toArray, List.getElem?_cons_succ, List.getElem?_cons_zero]; rfl) (by kernel_rfl) (by kernel_rfl) (by kernel_rfl) (fun _ _ _ h => h) (Or.inl ⟨by rfl, ?_⟩) (by assumption) ?_
            rotate_left 1
            · (intro w hSw; (try dsimp only at hSw); go_simp; try with_reducible rfl)
            try simp only [Act.put, List.setIfInBounds_toArray, List.set_cons_zero, List.set_cons_succ]
            refine wpAnyH_take (i := 13) (v := ?_) (by simp only [List.getElem?_toArray, List.getElem?_cons_succ, List.getElem?_cons_zero]; rfl) (by kernel_rfl) (by kernel_rfl) (by kernel_rfl) (fun _ _ _ h => h) (Or.inl ⟨by rfl, ?_⟩) (by assumption) ?_
            rotate_left 1
            · (intro w hSw; (try dsimp only at hSw); go_simp; try with_reducible rfl)
            try simp only [Act.put, List.setIfInBounds_toArray, List.set_cons_zero, List.set_cons_succ]
            refine wpAnyH_take (i := 14) (v := ?_) (by simp only [List.getElem?_toArray, List.getElem?_cons_succ, List.getElem?_cons_zero]; rfl) (by kernel_rfl) (by kernel_rfl) (by kernel_rfl) (fun _ _ _ h => h) (Or.inl ⟨by rfl, ?_⟩) (by assumption) ?_
            rotate_left 1
            · (intro w hSw; (try dsimp only at hSw); go_simp; try with_reducible rfl)
            try simp only [Act.put, List.setIfInBounds_toArray, List.set_cons_zero, List.set_cons_succ]
            obtain ⟨c0, c1, c2, c3, f0, f1, f2, f3⟩ := cell4 (X9.out.below BE.out)
            refine wpAnyH_ready (rs := [15]) (by kernel_rfl) (by simp) ?_
            refine AllReadyH.cons (by simp only [List.getElem?_toArray, List.getElem?_cons_succ, List.getElem?_cons_zero]; rfl) (fun K hK => ?_) ?_
            rotate_left 1
            · exact AllReadyH.nil
            go_simp
            obtain ⟨W, eW, S1, S2, S3, S4⟩ := set4x (X9.out.below BE.out) (.slice As4 R.2.sure.length cs4) (.slice Aq4 R.2.queue.length cq4) (.int .i64 (R.2.steps : Int)) (.int .i64 R.2.left); have hcc := op9S (S2 _ _ _ (X12.out.below BE.out) (by have := G12.out; omega)); rw [eW]; clear eW
            refine hK.out _ _ ?_ (fun hHeld2 => ?_)
            · ((try dsimp only) <;> (first | trivial | assumption | go_keep))
            clear hHeld
            have hHeld := hHeld2
            clear hHeld2 hK K
            try simp only [Act.put, List.setIfInBounds_toArray, List.set_cons_zero, List.set_cons_succ]
            clear c0 c1 c2 c3 f0 f1 f2 f3 hHeld
            have hHeld := hcc
            clear hcc
            refine wpAnyH_take (i := 16) (v := ?_) (by simp only [List.getElem?_toArray, List.getElem?_cons_succ, List.getElem?_cons_zero]; rfl) (by kernel_rfl) (by kernel_rfl) (by kernel_rfl) (fun _ _ _ h => h) (Or.inl ⟨by rfl, ?_⟩) (by assumption) ?_
            rotate_left 1
            · (intro w hSw; (try dsimp only at hSw); go_simp; try with_reducible rfl)
            try simp only [Act.put, List.setIfInBounds_toArray, List.set_cons_zero, List.set_cons_succ]
            refine wpAnyH_done (by kernel_rfl) ?_ _
            refine NoPanic.normal ?_
            clear hHeld
            have KT := kt_box S4 (X9.out.below BE.out) (base := w1.heap.size) G9.out
            go_wp2_with fail
            go_meet
            exact ⟨As4, cs4, Aq4, cq4, rfl, (L.out.below BE.out).kt KT (by decide) (by decide) (by decide), RM4.out.kt KT (by decide) (by decide), S1, S2 _ _ _ (X12.out.below BE.out) (by have := G12.out; omega), S2 _ _ _ (X14.out.below BE.out) (by have := G12.out; have := G14.out; omega), (BF.out.below BE.out).kt KT (by decide) (by decide), RwAt.kt (RwAt.below BI.out BE.out) KT (by decide)⟩
          ·
            go_simp
            refine TX.mono ?_; rintro r wf ⟨A7, c7, rfl, ho, hb⟩; have O7 := hide ho; replace BE := hide (BE.out.trans (hb.mono BE.out.size)); have hcc := op9S (X12.out.below BE.out); clear ho hb
            refine hK.out _ _ ?_ (fun hHeld2 => ?_)
            · ((try dsimp only) <;> (first | trivial | assumption | go_keep))
            clear hHeld
            have hHeld := hHeld2
            clear hHeld2 hK K
            try simp only [Act.put, List.setIfInBounds_toArray, List.set_cons_zero, List.set_cons_succ]
            clear hHeld TX RT6
            have hHeld := hcc
            clear hcc
            have RW := rwrite15 w1.heap.size As cs Aq cq D a HB.out.1 v A1 A2 n1 c1 n2 c2 _ _ _ _ A7 nb c7 _ (blkS nb data) wf (RM.out.below BE.out) (Nat.le_trans L.out.sz BE.out.size) (HF.out.bx (L.out.below BE.out).bel) (RwAt.bx HI.out (L.out.below BE.out).bel) (by omega) (by omega) (by omega) (fun f hf => (HL.out f hf).1) (Sl.of_own O7.out) (Nat.le_refl _) (fun b hb => by have := blkS_64 _ _ b hb; omega) (by have := HNB.out; omega) (by have := HD.out.2.2.2; omega) (by rw [HD.out.2.1]; exact Nat.zero_le _)
            rw [← HR.out] at RW
            unfold partC refV at RW
            obtain ⟨c0, c1, c2, c3, -⟩ := cell4 (X9.out.below BE.out)
            refine wpAnyH_ready (rs := [0]) (by kernel_rfl) (by simp) ?_
            refine AllReadyH.cons (by simp only [List.getElem?_toArray, List.getElem?_cons_succ, List.getElem?_cons_zero]; rfl) (fun K hK => ?_) ?_
            rotate_left 1
            · exact AllReadyH.nil
            go_simp
            refine hK.out _ _ ?_ (fun hHeld2 => ?_)
            · ((try dsimp only) <;> (first | trivial | assumption | go_keep))
            clear hHeld
            have hHeld := hHeld2
            clear hHeld2 hK K
            try simp only [Act.put, List.setIfInBounds_toArray, List.set_cons_zero, List.set_cons_succ]
            clear c0 c1 c2 c3
            refine wpAnyH_ready (rs := [11]) (by kernel_rfl) (by simp) ?_
            refine AllReadyH.cons (by simp only [List.getElem?_toArray, List.getElem?_cons_succ, List.getElem?_cons_zero]; rfl) (fun K hK => ?_) ?_
            rotate_left 1
            · exact AllReadyH.nil
            go_simp
            refine RW.mono ?_; rintro r wg ⟨As4, cs4, Aq4, cq4, rfl, kk⟩; have RM4 := hide kk.rm; replace BE := hide (BE.out.trans (kk.bel.mono BE.out.size)); have hcc := op9S (X12.out.below BE.out); clear kk; unfold refV
            refine hK.out _ _ ?_ (fun hHeld2 => ?_)
            · ((try dsimp only) <;> (first | trivial | assumption | go_keep))
            clear hHeld
            have hHeld := hHeld2
            clear hHeld2 hK K
            try simp only [Act.put, List.setIfInBounds_toArray, List.set_cons_zero, List.set_cons_succ]
            clear hHeld RW
            have hHeld := hcc
            clear hcc
            refine wpAnyH_take (i := 12) (v := ?_) (by simp only [List.getElem?_toArray, List.getElem?_cons_succ, List.getElem?_cons_zero]; rfl) (by kernel_rfl) (by kernel_rfl) (by kernel_rfl) (fun _ _ _ h => h) (Or.inl ⟨by rfl, ?_⟩) (by assumption) ?_
            rotate_left 1
            · (intro w hSw; (try dsimp only at hSw); go_simp; try with_reducible rfl)
            try simp only [Act.put, List.setIfInBounds_toArray, List.set_cons_zero, List.set_cons_succ]
            refine wpAnyH_take (i := 13) (v := ?_) (by simp only [List.getElem?_toArray, List.getElem?_cons_succ, List.getElem?_cons_zero]; rfl) (by kernel_rfl) (by kernel_rfl) (by kernel_rfl) (fun _ _ _ h => h) (Or.inl ⟨by rfl, ?_⟩) (by assumption) ?_
            rotate_left 1
            · (intro w hSw; (try dsimp only at hSw); go_simp; try with_reducible rfl)
            try simp only [Act.put, List.setIfInBounds_toArray, List.set_cons_zero, List.set_cons_succ]
            refine wpAnyH_take (i := 14) (v := ?_) (by simp only [List.getElem?_toArray, List.getElem?_cons_succ, List.getElem?_cons_zero]; rfl) (by kernel_rfl) (by kernel_rfl) (by kernel_rfl) (fun _ _ _ h => h) (Or.inl ⟨by rfl, ?_⟩) (by assumption) ?_
            rotate_left 1
            · (intro w hSw; (try dsimp only at hSw); go_simp; try with_reducible rfl)
            try simp only [Act.put, List.setIfInBounds_toArray, List.set_cons_zero, List.set_cons_succ]
            obtain ⟨c0, c1, c2, c3, f0, f1, f2, f3⟩ := cell4 (X9.out.below BE.out)
            refine wpAnyH_ready (rs := [15]) (by kernel_rfl) (by simp) ?_
            refine AllReadyH.cons (by simp only [List.getElem?_toArray, List.getElem?_cons_succ, List.getElem?_cons_zero]; rfl) (fun K hK => ?_) ?_
            rotate_left 1
            · exact AllReadyH.nil
            go_simp
            obtain ⟨W, eW, S1, S2, S3, S4⟩ := set4x (X9.out.below BE.out) (.slice As4 R.2.sure.length cs4) (.slice Aq4 R.2.queue.length cq4) (.int .i64 (R.2.steps : Int)) (.int .i64 R.2.left); have hcc := op9S (S2 _ _ _ (X12.out.below BE.out) (by have := G12.out; omega)); rw [eW]; clear eW
            refine hK.out _ _ ?_ (fun hHeld2 => ?_)
            · ((try dsimp only) <;> (first | trivial | assumption | go_keep))
            clear hHeld
            have hHeld := hHeld2
            clear hHeld2 hK K
            try simp only [Act.put, List.setIfInBounds_toArray, List.set_cons_zero, List.set_cons_succ]
            clear c0 c1 c2 c3 f0 f1 f2 f3 hHeld
            have hHeld := hcc
            clear hcc
            refine wpAnyH_take (i := 16) (v := ?_) (by simp only [List.getElem?_toArray, List.getElem?_cons_succ, List.getElem?_cons_zero]; rfl) (by kernel_rfl) (by kernel_rfl) (by kernel_rfl) (fun _ _ _ h => h) (Or.inl ⟨by rfl, ?_⟩) (by assumption) ?_
            rotate_left 1
            · (intro w hSw; (try dsimp only at hSw); go_simp; try with_reducible rfl)
            try simp only [Act.put, List.setIfInBounds_toArray, List.set_cons_zero, List.set_cons_succ]
            refine wpAnyH_done (by kernel_rfl) ?_ _
            refine NoPanic.normal ?_
            clear hHeld
            have KT := kt_box S4 (X9.out.below BE.out) (base := w1.heap.size) G9.out
            go_wp2_with fail
            go_meet
            exact ⟨As4, cs4, Aq4, cq4, rfl, (L.out.below BE.out).kt KT (by decide) (by decide) (by decide), RM4.out.kt KT (by decide) (by decide), S1, S2 _ _ _ (X12.out.below BE.out) (by have := G12.out; omega), S2 _ _ _ (X14.out.below BE.out) (by have := G12.out; have := G14.out; omega), (BF.out.below BE.out).kt KT (by decide) (by decide), RwAt.kt (RwAt.below BI.out BE.out) KT (by decide)⟩
      clear L RM X9 X12 X14 BF BI BK
      case rest =>
        obtain ⟨As4, cs4, Aq4, cq4, rfl, hl, hrm, hx9, hx12, hx14, hbf, hbi⟩ := hcut
        have L := hide hl
        have RM := hide hrm
        have X9 := hide hx9
        have X12 := hide hx12
        have X14 := hide hx14
        have BF := hide hbf
        have BI := hide hbi
        clear hl hrm hx9 hx12 hx14 hbf hbi
        obtain ⟨q, E⟩ := R
        dsimp only at *
        have SM := hide (same_pv v v B1 B2 A1 A2 n1 d1 n2 d2 n1 c1 n2 c2 _ _ _ _ _ _ _ _ wc BF.out (HF.out.bx L.out.bel) BI.out (RwAt.bx HI.out L.out.bel) (by omega) (by omega) (by omega) (by omega) hfl.out hfl.out)
        rw [decide_eq_true rfl] at SM
        unfold partC at SM
        obtain ⟨x0, x1, x2, x3, x4, x5, x6, x7, x8⟩ := op9S X12.out
        obtain ⟨y0, y1, y2, y3, y4, y5, y6⟩ := op7S X14.out
        go_wp2_with fail
        clear x0 x1 x2 x3 x4 x5 x6 x7 x8 y0 y1 y2 y3 y4 y5 y6
        refine SM.out.mono ?_
        rintro r wy ⟨rfl, hb⟩
        replace L := hide (L.out.below hb)
        replace RM := hide (RM.out.below hb)
        replace X9 := hide (X9.out.below hb)
        clear hb SM
        go_wp2_with fail
        go_roundw
        case rel => exact ⟨i + 1, E, As4, cs4, Aq4, cq4, by omega, by go_num, L.out, RM.out, X9.out, HW.out.1.1, HW.out.1.2, by rw [HW.out.2.2]; exact HD.out.2.2.1, by have := HW.out.2.1; rw [blkS_len] at this; have := HD.out.2.2.2; have := HNB.out; omega⟩
        case measure => simp [intOf]; omega
end Go.Proofs.YtlobkefacnedeaaDoor

/- A piece as an argument. -/
namespace Go.Proofs.YtlobkefacnedeaaDoor
open Go.RowKit
set_option maxRecDepth 100000

/-- What is known of a piece that came in. -/
structure PcA (w : World) (cs : List Value) (a : Int) (v : PV) (A1 : Option Addr) (n1 c1 : Nat) (A2 : Option Addr) (n2 c2 : Nat) (A3 : Option Addr) (m c3 : Nat) (data : List UInt8) : Prop where
  e : cs = (rfC a v A1 n1 c1 A2 n2 c2 A3 m c3).toList
  a64 : I64 a
  f : FisAt 0 w.heap.size w A1 n1 v.fs
  i : IntsAt 0 w.heap.size w A2 n2 v.is
  d : By w w.heap.size A3 m data
  hc : m ≤ c3
  h1 : n1 ≤ 9223372036854775807
  h2 : n2 ≤ 9223372036854775807
  h3 : m ≤ 9223372036854775807
  hl : ∀ f ∈ v.fs, (∀ x ∈ f.ls, I64 x) ∧ f.ls.length ≤ 9223372036854775807
set_option maxRecDepth 100000 in
theorem piece_rd {w : World} {cs : List Value} {k : Nat} (h : Rd Tryd.prog w (k + 6) 28 cs) : ∃ a v A1 n1 c1 A2 n2 c2 A3 m c3 data, PcA w cs a v A1 n1 c1 A2 n2 c2 A3 m c3 data := by
  have hc : Tryd.prog.cellsOf 3 = 1 := by kernel_rfl
  have hc7 : Tryd.prog.cellsOf 25 = 7 := by kernel_rfl
  have hc9 : Tryd.prog.cellsOf 28 = 9 := by kernel_rfl
  have hcs1 : Tryd.prog.cellsOf 22 = 1 := by kernel_rfl
  have hcs2 : Tryd.prog.cellsOf 23 = 1 := by kernel_rfl
  have hcs3 : Tryd.prog.cellsOf 26 = 1 := by kernel_rfl
  have hl := rd_len (n := k + 5) Tryd.underlying28 h
  rw [hc9] at hl
  match cs, hl with
  | [b0, b1, b2, b3, b4, b5, b6, b7, b8], _ =>
    obtain ⟨a, rfl, hwa⟩ := rd_fld_int (n := k + 4) Tryd.underlying28 h 0 (u := 3) (o := 0) rfl hc Tryd.underlying3 rfl
    have hp := rd_field (n := k + 5) Tryd.underlying28 h 1 (u := 25) (o := 1) rfl hc7
    have hd := rd_field (n := k + 5) Tryd.underlying28 h 2 (u := 26) (o := 8) rfl hcs3
    have hp' : Rd Tryd.prog w (k + 5) 25 [b1, b2, b3, b4, b5, b6, b7] := by simpa using hp
    have hd' : Rd Tryd.prog w (k + 5) 26 [b8] := by simpa using hd
    obtain ⟨p1, rfl, _⟩ := rd_fld_int (n := k + 3) Tryd.underlying25 hp' 0 (u := 3) (o := 0) rfl hc Tryd.underlying3 rfl
    obtain ⟨p2, rfl, _⟩ := rd_fld_int (n := k + 3) Tryd.underlying25 hp' 1 (u := 3) (o := 1) rfl hc Tryd.underlying3 rfl
    obtain ⟨p3, rfl, _⟩ := rd_fld_int (n := k + 3) Tryd.underlying25 hp' 2 (u := 3) (o := 2) rfl hc Tryd.underlying3 rfl
    obtain ⟨p4, rfl, _⟩ := rd_fld_int (n := k + 3) Tryd.underlying25 hp' 3 (u := 3) (o := 3) rfl hc Tryd.underlying3 rfl
    obtain ⟨p5, rfl, _⟩ := rd_fld_int (n := k + 3) Tryd.underlying25 hp' 4 (u := 3) (o := 4) rfl hc Tryd.underlying3 rfl
    have h5 := rd_field (n := k + 4) Tryd.underlying25 hp' 5 (u := 22) (o := 5) rfl hcs1
    have h6 := rd_field (n := k + 4) Tryd.underlying25 hp' 6 (u := 23) (o := 6) rfl hcs2
    obtain ⟨A1, n1, k1, fs, rfl, q1, q2, hf, hb⟩ := fis_of_rdK (k0 := k) (v := b6) (by simpa using h5)
    obtain ⟨A2, n2, k2, is, rfl, q3, q4, hi, hbi⟩ := ints_of_rdA (m := k + 2) (v := b7) (by simpa using h6)
    obtain ⟨A3, m, k3, data, rfl, q5, q6, hby⟩ := by_of_rd (n := k + 3) Tryd.underlying26 Tryd.underlying5 (by kernel_rfl) hd'
    exact ⟨a, ⟨p1, p2, p3, p4, p5, fs, is⟩, A1, n1, k1, A2, n2, k2, A3, m, k3, data, ⟨rfl, wf_bd_i64 hwa, hf, hi, hby, q5, by omega, by omega, by omega, fun f hm => ⟨(hb f hm).2.2.1, (hb f hm).2.2.2⟩⟩⟩
end Go.Proofs.YtlobkefacnedeaaDoor

/- The walk of marllaw15.SegClears. -/
namespace Go.Proofs.YtlobkefacnedeaaDoor
open Go.RowKit
set_option maxRecDepth 100000
attribute [local go_sem ↓] Go.wp_at_zero Go.wp_at_succ

set_option maxHeartbeats 8000000 in
theorem clears15 (w : World) (a : Int) (v : PV) (A1 A2 A3 : Option Addr) (n1 c1 n2 c2 m c3 : Nat) (data : List UInt8) (k : Int) (hk : I64 k) (sp : SpanAt w) (ha : I64 a) (hf : FisAt 0 w.heap.size w A1 n1 v.fs) (hi : IntsAt 0 w.heap.size w A2 n2 v.is) (hd : By w w.heap.size A3 m data) (hmc : m ≤ c3)
    (hn1 : n1 ≤ 9223372036854775807) (hn2 : n2 ≤ 9223372036854775807) (hm : m ≤ 9223372036854775807) (hl : ∀ f ∈ v.fs, (∀ x ∈ f.ls, I64 x) ∧ f.ls.length ≤ 9223372036854775807) :
    Calls Tryd.prog 5 #[.agg (rfC a v A1 n1 c1 A2 n2 c2 A3 m c3), .int .i64 k] w fun r w' => r = .returned (.bool true) ∧ Below w.heap.size w w' := by
  have SP := hide sp
  have HF := hide hf
  have HI := hide hi
  have HD := hide hd
  have HL := hide hl
  have HA := hide ha
  have HK := hide hk
  clear sp hf hi hd hl ha hk
  unfold rfC
  go_enter Tryd.func5, Tryd.ntmps5
  go_upto_region 1 with fail
  obtain ⟨w1, hw⟩ : ∃ W, W = w.alloc (.cells #[.int .i64 a, .int .i64 v.e, .int .i64 v.c, .int .i64 v.i, .int .i64 v.p, .int .i64 v.x, .slice A1 n1 c1, .slice A2 n2 c2, .slice A3 m c3] 28) := ⟨_, rfl⟩
  have X1 : Hid (Blk w1 w.heap.size 28 #[.int .i64 a, .int .i64 v.e, .int .i64 v.c, .int .i64 v.i, .int .i64 v.p, .int .i64 v.x, .slice A1 n1 c1, .slice A2 n2 c2, .slice A3 m c3]) := hide (by rw [hw]; exact Blk.new _ _ _)
  have BW : Hid (Below w.heap.size w w1) := hide (by rw [hw]; exact (Below.refl _ _).alloc (Nat.le_refl _) _)
  rw [← hw]
  obtain ⟨g1, hg⟩ : ∃ g, g = w.heap.size := ⟨_, rfl⟩
  rw [← hg] at X1 ⊢
  clear hw hg
  go_wp2_with fail
  refine (awake15 w1 (SP.out.bel BW.out)).mono ?_
  rintro r w2 ⟨rfl, hb⟩
  replace X1 := hide (X1.out.below hb)
  replace BW := hide (BW.out.trans (hb.mono BW.out.size))
  clear hb
  have FC := hide (few15 w2 a v A1 A2 A3 n1 c1 n2 c2 m c3 _ _ (HF.out.bx BW.out) hn1 hn2 hm (fun f hf => (HL.out f hf).2))
  unfold rfC at FC
  obtain ⟨x0, x1, x2, x3, x4, x5, x6, x7, x8⟩ := op9S X1.out
  go_wp2_with fail
  clear x0 x1 x2 x3 x4 x5 x6 x7 x8
  refine FC.out.mono ?_
  rintro r w3 ⟨⟨b, rfl, hfw⟩, hb⟩
  replace X1 := hide (X1.out.below hb)
  replace BW := hide (BW.out.trans (hb.mono BW.out.size))
  clear hb FC
  cases b with
  | false =>
    clear hfw
    go_wp2_with fail
    refine (awake15 w3 (SP.out.bel BW.out)).mono ?_
    rintro r w4 ⟨rfl, hb⟩
    have B4 := hide (BW.out.trans (hb.mono BW.out.size))
    clear hb
    go_wp2_with fail
    go_ret
    exact ⟨rfl, B4.out⟩
  | true =>
    clear hfw
    have HP := hide (pcs_one (c1 := c1) (c2 := c2) HA.out ((HF.out.bx BW.out).base_ BW.out.size) ((RwAt.bx HI.out BW.out).base_ BW.out.size) ((HD.out.below BW.out).more BW.out.size) hmc hn1 hn2 hm HL.out)
    unfold rfC at HP
    obtain ⟨w4, hw⟩ : ∃ W, W = w3.alloc (.cells #[.int .i64 a, .int .i64 v.e, .int .i64 v.c, .int .i64 v.i, .int .i64 v.p, .int .i64 v.x, .slice A1 n1 c1, .slice A2 n2 c2, .slice A3 m c3] 28) := ⟨_, rfl⟩
    have ba := (show Below w3.heap.size w3 w4 by rw [hw]; exact (Below.refl _ _).alloc (Nat.le_refl _) _)
    have HW := hide hw
    rw [← hw] at HP
    clear hw
    have B4 := hide (BW.out.trans (ba.mono BW.out.size))
    have WR := hide (written15 w4 120 (by decide) (by decide) _ 1 1 _ (SP.out.bel B4.out) HP.out (by decide))
    rw [show ((120 : Nat) : Int) = 120 from rfl] at WR
    clear ba
    obtain ⟨x0, x1, x2, x3, x4, x5, x6, x7, x8⟩ := op9S X1.out
    go_wp2_with fail
    clear x0 x1 x2 x3 x4 x5 x6 x7 x8 X1
    rw [← HW.out]
    refine WR.out.mono ?_
    clear WR HP HW BW
    rintro r w5 ⟨D, d, As, cs, Aq, cq, rfl, hl, hrm, hL, hQ, hN, hS⟩
    have L := hide hl
    have RM := hide hrm
    have HX := hide (show D.left < 0 ∧ D.queue = [] ∧ D.sure.length = 120 ∧ D.steps ≤ 5000 from ⟨hL, hQ, hN, hS⟩)
    clear hl hrm hL hQ hN hS
    have B5 := hide (B4.out.trans (L.out.bel.mono B4.out.size))
    unfold refV
    go_upto_region 4 with fail
    obtain ⟨w6, hw⟩ : ∃ W, W = w5.alloc (.cells #[.slice As D.sure.length cs, .slice Aq D.queue.length cq, .int .i64 (D.steps : Int), .int .i64 D.left] 51) := ⟨_, rfl⟩
    have X6 : Hid (Blk w6 w5.heap.size 51 #[.slice As D.sure.length cs, .slice Aq D.queue.length cq, .int .i64 (D.steps : Int), .int .i64 D.left]) := hide (by rw [hw]; exact Blk.new _ _ _)
    have ba := (show Below w5.heap.size w5 w6 by rw [hw]; exact (Below.refl _ _).alloc (Nat.le_refl _) _)
    rw [← hw]
    obtain ⟨g6, hg⟩ : ∃ g, g = w5.heap.size := ⟨_, rfl⟩
    rw [← hg] at X6 ⊢
    replace L := hide (L.out.below ba)
    replace RM := hide (RM.out.below ba)
    replace B5 := hide (B5.out.trans (ba.mono B5.out.size))
    clear hw hg ba
    go_wp2_with fail
    refine (clear_any w4 w6 d D L.out k (by have := HX.out.2.2.2; omega) (by rw [HX.out.2.1]; exact Nat.zero_le _)).mono ?_
    rintro r w7 ⟨rfl, hst⟩
    have K := hide (stp_kt L.out hst)
    replace X6 := hide (X6.out.kt K.out (by decide))
    replace RM := hide (RM.out.kt K.out (by decide) (by decide))
    have L7 := hide hst.ld
    have B7 := hide (B4.out.trans (L7.out.bel.mono B4.out.size))
    clear hst K B5 L
    by_cases hat : k < 0 ∨ 118 < k
    · have e1 : clrS D k = (22, D) := by unfold clrS; rw [HX.out.2.2.1, if_pos (by omega)]
      rw [e1] at L7 ⊢
      dsimp only at *
      have TL := hide (tells_any w7 d D _ As cs Aq cq L7.out RM.out)
      unfold refV at TL
      obtain ⟨c0, c1, c2, c3, -⟩ := cell4 X6.out
      clear e1
      rcases (show k < 0 ∨ (¬ k < 0 ∧ 118 < k) by omega) with h1 | ⟨h1, h2⟩
      · go_wp2_with fail
        refine TL.out.mono ?_
        rintro r w8 ⟨rfl, hb⟩
        replace B7 := hide (B7.out.trans (hb.mono B7.out.size))
        clear hb TL c0 c1 c2 c3
        go_wp2_with fail
        go_ret
        exact ⟨rfl, B7.out⟩
      · go_wp2_with fail
        refine TL.out.mono ?_
        rintro r w8 ⟨rfl, hb⟩
        replace B7 := hide (B7.out.trans (hb.mono B7.out.size))
        clear hb TL c0 c1 c2 c3
        go_wp2_with fail
        go_ret
        exact ⟨rfl, B7.out⟩
    · obtain ⟨p, rfl⟩ : ∃ p : Nat, k = (p : Int) := ⟨k.toNat, by omega⟩
      have HPB := hide (show p ≤ 118 by omega)
      have hC := clrS_ok HX.out.1 (by rw [HX.out.2.1]; simp) (a := p) (D := D) (by rw [HX.out.2.2.1]; omega)
      obtain ⟨R, hR⟩ : ∃ R, R = clrS D (p : Int) := ⟨_, rfl⟩
      have hN : R.2.sure.length = 120 := by rw [hR, clrS_len]; exact HX.out.2.2.1
      rw [← hR] at hC L7 ⊢
      clear hR
      obtain ⟨q, E⟩ := R
      obtain ⟨rfl, hC1, hC2, hC3⟩ := hC
      have HE := hide (show E.queue = [] ∧ E.sure.length = 120 ∧ ∀ j, E.read j = if j = p ∨ j = p + 1 then zero64 else D.read j from ⟨hC2, hN, hC3⟩)
      dsimp only at L7 ⊢
      clear hC1 hC2 hC3 hN
      have h1 : ¬ (p : Int) < 0 := by omega
      have h2 : ¬ 118 < (p : Int) := by omega
      clear hat
      have CR := hide (ld_crash L7.out (by rw [HE.out.2.1]; decide) w7.heap.size none 0 0 [] ⟨rfl, fun i u hu => by simp at hu⟩ (Nat.le_refl _) (by decide) (-1) 0)
      go_wp2_with fail
      refine CR.out.mono ?_
      rintro r w8 ⟨d', cap, pad, rfl, hl⟩
      have L8 := hide hl
      obtain ⟨C, hCe⟩ : ∃ C, C = E.crashed (crashF [] (-1) 0) cap pad := ⟨_, rfl⟩
      rw [← hCe] at L8
      have HC := hide (show C.sure.length = 120 ∧ ∀ j, C.read j = if j = p ∨ j = p + 1 then zero64 else D.read j by
        obtain ⟨z1, z2, z3⟩ := crashed_none15 HE.out.1 (crashF [] (-1) 0) cap pad
        rw [hCe]
        refine ⟨by rw [z1]; exact HE.out.2.1, fun j => by rw [z3]; exact HE.out.2.2 j⟩)
      have B8 := hide (B7.out.trans (hl.bel.mono B7.out.size))
      replace X6 := hide (X6.out.below hl.bel)
      replace RM := hide (RM.out.below hl.bel)
      have S7 := hide (SP.out.bel B7.out)
      clear hl hCe CR L7 HE B7
      go_wp2_with fail
      go_loopw [10] (fun y wr => ∃ i : Nat, i ≤ 120 ∧ y = .int .i64 (i : Int) ∧ Below w8.heap.size w8 wr) (fun y _ => 120 - (intOf y).toNat)
      case atStart => exact ⟨0, Nat.zero_le _, rfl, Below.refl _ _⟩
      case round =>
        obtain ⟨i, hi, rfl, hbr⟩ := hrel
        have BR := hide hbr
        clear hbr
        by_cases hlt : i < 120
        · have h3 : (i : Int) < 120 := by omega
          go_wp2_with fail
          refine (ld_read (L8.out.below BR.out) i (by rw [HC.out.1]; exact hlt)).mono ?_
          rintro r wa ⟨gx, rfl, hgx, hbx, hblx⟩
          replace BR := hide (BR.out.trans (hblx.mono BR.out.size))
          have XB := hide hbx
          clear hbx hblx hgx
          have X6' := hide (X6.out.below BR.out)
          have RR := hide (rread_any wa _ As cs Aq cq D (RM.out.below BR.out) i (by rw [HX.out.2.2.1]; exact hlt))
          unfold refV at RR
          obtain ⟨c0, c1, c2, c3, -⟩ := cell4 X6'.out
          go_wp2_with fail
          refine RR.out.mono ?_
          rintro r wb ⟨rfl, hb⟩
          replace BR := hide (BR.out.trans (hb.mono BR.out.size))
          replace XB := hide (XB.out.below hb)
          have r64 := hide (read_len L8.out i (by rw [HC.out.1]; exact hlt))
          clear hb c0 c1 c2 c3 RR X6'
          have h4 : IntKind.i64.wrap ((p : Int) + 1) = (p : Int) + 1 := by rw [IntKind.wrap_i64]; have := HPB.out; omega
          by_cases hpi : i = p ∨ i = p + 1
          · have HRD := hide (show C.read i = zero64 by rw [HC.out.2, if_pos hpi])
            rw [HRD.out] at XB r64
            have hmk := mk_64s wb
            have hzt := zero_txt wb
            have e1 := run_conv_txt (P := Tryd.prog) (w := wb.alloc (.cells (u8s zero64).toArray 5)) Tryd.underlying26 Tryd.underlying5 Tryd.underlying9 64 (by_blk (XB.out.alloc _) r64.out)
            have B9 := hide (BR.out.trans (((Below.refl wb.heap.size wb).alloc (Nat.le_refl _) (.cells (u8s zero64).toArray 5)).mono BR.out.size))
            rcases hpi with rfl | rfl
            · go_wp2_with fail
              go_roundw
              case rel => exact ⟨i + 1, by omega, by go_num, B9.out⟩
              case measure => simp [intOf]; omega
            · have h5 : ¬ ((p + 1 : Nat) : Int) = (p : Int) := by omega
              go_wp2_with fail
              go_roundw
              case rel => exact ⟨p + 1 + 1, by omega, by go_num, B9.out⟩
              case measure => simp [intOf]; omega
          · have HRD := hide (show C.read i = D.read i by rw [HC.out.2, if_neg hpi])
            rw [HRD.out] at XB r64
            have e1 := run_conv_txt (P := Tryd.prog) (w := wb) Tryd.underlying26 Tryd.underlying5 Tryd.underlying9 64 (by_blk XB.out r64.out)
            have h5 : ((i : Int) == (p : Int)) = false := beq_eq_false_iff_ne.2 (by omega)
            have h6 : ((i : Int) == (p : Int) + 1) = false := beq_eq_false_iff_ne.2 (by omega)
            clear hpi
            obtain ⟨rd, hrd⟩ : ∃ rd, rd = D.read i := ⟨_, rfl⟩
            rw [← hrd] at e1 ⊢
            clear hrd
            have ht := txt_eq rd
            go_wp2_with fail
            go_roundw
            case rel => exact ⟨i + 1, by omega, by go_num, BR.out⟩
            case measure => simp [intOf]; omega
        · have h3 : ¬ (i : Int) < 120 := by omega
          have hR : rdS C (p : Int) = (100, pv0, []) := by
            unfold rdS
            rw [if_neg (by rw [HC.out.1]; have := HPB.out; omega), Int.toNat_natCast, HC.out.2, HC.out.2, if_pos (.inl rfl), if_pos (.inr rfl), zero_no]
          have RA := hide (read_any w7 wr d' C (L8.out.below BR.out) (p : Int) HK.out S7.out)
          go_wp2_with fail
          refine RA.out.mono ?_
          rintro r w9 ⟨⟨B1, d1, B2, d2, A3', c3', gs, rfl, -⟩, hb⟩
          rw [hR]
          unfold fdC pv0
          have B9 := hide (B8.out.trans ((BR.out.trans (hb.mono BR.out.size)).mono B8.out.size))
          clear hb RA hR
          go_wp2_with fail
          go_ret
          exact ⟨rfl, B9.out.trans (((Below.refl w9.heap.size w9).alloc (Nat.le_refl _) _).mono B9.out.size)⟩
end Go.Proofs.YtlobkefacnedeaaDoor
