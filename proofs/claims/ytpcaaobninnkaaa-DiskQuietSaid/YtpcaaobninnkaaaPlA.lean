/- The walk over Play: arm, and what is none. -/
import Derived.Test.YtpcaaobninnkaaaPlY
namespace Go.Proofs.Ytpcaaobninnkaaa
open Go.RowKit
attribute [local go_sem ↓] Go.wp_at_zero Go.wp_at_succ

set_option maxHeartbeats 1000000 in
set_option maxRecDepth 100000 in
theorem play_arm_no {w0 w : World} {d : Nat} {D : Dsk} {As : Option Addr} {cs : Nat} {Aq : Option Addr} {cq : Nat} (h : PJ w0 w d D As cs Aq cq D) (o : OpL) (hk : o.kind = 3) (hn : o.n < 0) :
    Calls Try.prog 22 #[.pointer (some ⟨d, 0, none⟩), .agg (refV As cs Aq cq D), .agg (opV o)] w (Played w0 w d D As Aq) := by
  have Y0 := hide (PY.start h (refV As cs Aq cq D) (opV o) (.slice none 0 0) (.slice none 0 0) (.int .i64 0) (.int .i64 0))
  have hb0 := hide h.ld.sz
  have hok := hide h.ld.ok
  rw [refV_eq] at *
  unfold opV at *
  have HN := hide hn
  clear hn
  clear h
  generalize o.kind = kd at *
  subst hk
  go_enter Try.func22, Try.ntmps22
  go_upto_region 2 with fail
  generalize hw1 : ((w.alloc _).alloc _).alloc _ = w1 at *
  clear hw1
  obtain ⟨c0, c1, c2, c3, -⟩ := blk4 Y0.out.k0
  have o0 := Y0.out.k1.cell 0
  have p1 := Y0.out.k1.cell 1
  go_wp2_with fail
  refine (ld_arm_no Y0.out.pj.ld o.n HN.out).mono ?_
  rintro e w2 ⟨rfl, rfl⟩
  have Y2 := hide (Y0.out)
  clear c0 c1 c2 c3 o0 p1 Y0
  obtain ⟨c0, c1, c2, c3, f0, f1, f2, f3⟩ := blk4 Y2.out.k0
  have p1 := Y2.out.k1.cell 1
  go_wp2_with fail
  have C := rarm_no As cs Aq cq D o.n w1 HN.out
  rw [refV_eq] at C
  refine C.mono ?_
  rintro e w3 ⟨rfl, hb⟩
  have Y3 := hide (Y2.out.ref hb (Y2.out.pj.rm.below hb) (fun g hg => .inr hg) (fun g hg => .inr hg))
  clear C hb c0 c1 c2 c3 f0 f1 f2 f3 Y2 p1
  obtain ⟨c0, c1, c2, c3, f0, f1, f2, f3⟩ := blk4 Y3.out.k0
  go_upto_region 30 with fail
  have Y4 := hide (Y3.out.set4 hb0.out (.slice As D.sure.length cs) (.slice Aq D.queue.length cq) (.int .i64 (D.steps : Int)) (.int .i64 D.left))
  clear c0 c1 c2 c3 f0 f1 f2 f3 Y3
  generalize ((((w3.setCell ⟨w.heap.size, 0, none⟩ (.slice As D.sure.length cs)).setCell ⟨w.heap.size, 1, none⟩ (.slice Aq D.queue.length cq)).setCell ⟨w.heap.size, 2, none⟩ (.int .i64 (D.steps : Int))).setCell ⟨w.heap.size, 3, none⟩ (.int .i64 D.left)) = w4 at *
  have Y5 := hide (Y4.out.res hb0.out (.slice As D.sure.length cs) (.slice Aq D.queue.length cq) (.int .i64 (D.steps : Int)) (.int .i64 D.left))
  have S5 := hide (blk4 Y5.out.1.k0.drew)
  obtain ⟨c0, c1, c2, c3, f0, f1, f2, f3⟩ := blk4 Y4.out.k0
  obtain ⟨z0, z1, z2, z3, hz⟩ := Y4.out.k2
  obtain ⟨d0, d1, d2, d3, e0, e1, e2, e3⟩ := blk4 hz
  clear hz
  refine wp_region_noPanic ?_
  refine wp_region_held_drew (S := (fun w' => w'.cell? ⟨w.heap.size, 0, none⟩ = some (.slice As D.sure.length cs) ∧ w'.cell? ⟨w.heap.size, 1, none⟩ = some (.slice Aq D.queue.length cq) ∧ w'.cell? ⟨w.heap.size, 2, none⟩ = some (.int .i64 (D.steps : Int)) ∧ w'.cell? ⟨w.heap.size, 3, none⟩ = some (.int .i64 D.left))) (by kernel_rfl) ?_ (fun hHeld => ?_)
  · ((try dsimp only) <;> (first | trivial | assumption | go_keep))
  refine wpAnyH_take (i := 0) (v := ?_) (by simp only [List.getElem?_toArray, List.getElem?_cons_succ, List.getElem?_cons_zero]; rfl) (by kernel_rfl) (by kernel_rfl) (by kernel_rfl) (fun _ _ _ h => h) (Or.inl ⟨by rfl, ?_⟩) (by assumption) ?_
  rotate_left 1
  · (intro w hSw; (try dsimp only at hSw); go_simp; try with_reducible rfl)
  try simp only [Act.put, List.setIfInBounds_toArray, List.set_cons_zero, List.set_cons_succ]
  refine wpAnyH_take (i := 1) (v := ?_) (by simp only [List.getElem?_toArray, List.getElem?_cons_succ, List.getElem?_cons_zero]; rfl) (by kernel_rfl) (by kernel_rfl) (by kernel_rfl) (fun _ _ _ h => h) (Or.inl ⟨by rfl, ?_⟩) (by assumption) ?_
  rotate_left 1
  · (intro w hSw; (try dsimp only at hSw); go_simp; try with_reducible rfl)
  try simp only [Act.put, List.setIfInBounds_toArray, List.set_cons_zero, List.set_cons_succ]
  refine wpAnyH_take (i := 2) (v := ?_) (by simp only [List.getElem?_toArray, List.getElem?_cons_succ, List.getElem?_cons_zero]; rfl) (by kernel_rfl) (by kernel_rfl) (by kernel_rfl) (fun _ _ _ h => h) (Or.inl ⟨by rfl, ?_⟩) (by assumption) ?_
  rotate_left 1
  · (intro w hSw; (try dsimp only at hSw); go_simp; try with_reducible rfl)
  try simp only [Act.put, List.setIfInBounds_toArray, List.set_cons_zero, List.set_cons_succ]
  refine wpAnyH_take (i := 3) (v := ?_) (by simp only [List.getElem?_toArray, List.getElem?_cons_succ, List.getElem?_cons_zero]; rfl) (by kernel_rfl) (by kernel_rfl) (by kernel_rfl) (fun _ _ _ h => h) (Or.inl ⟨by rfl, ?_⟩) (by assumption) ?_
  rotate_left 1
  · (intro w hSw; (try dsimp only at hSw); go_simp; try with_reducible rfl)
  try simp only [Act.put, List.setIfInBounds_toArray, List.set_cons_zero, List.set_cons_succ]
  refine wpAnyH_take (i := 4) (v := ?_) (by simp only [List.getElem?_toArray, List.getElem?_cons_succ, List.getElem?_cons_zero]; rfl) (by kernel_rfl) (by kernel_rfl) (by kernel_rfl) (fun _ _ _ h => h) (Or.inl ⟨by rfl, ?_⟩) (by assumption) ?_
  rotate_left 1
  · (intro w hSw; (try dsimp only at hSw); go_simp; try with_reducible rfl)
  try simp only [Act.put, List.setIfInBounds_toArray, List.set_cons_zero, List.set_cons_succ]
  refine wpAnyH_take (i := 5) (v := ?_) (by simp only [List.getElem?_toArray, List.getElem?_cons_succ, List.getElem?_cons_zero]; rfl) (by kernel_rfl) (by kernel_rfl) (by kernel_rfl) (fun _ _ _ h => h) (Or.inl ⟨by rfl, ?_⟩) (by assumption) ?_
  rotate_left 1
  · (intro w hSw; (try dsimp only at hSw); go_simp; try with_reducible rfl)
  try simp only [Act.put, List.setIfInBounds_toArray, List.set_cons_zero, List.set_cons_succ]
  refine wpAnyH_ready (rs := [6]) (by kernel_rfl) (by simp) ?_
  refine AllReadyH.cons (by simp only [List.getElem?_toArray, List.getElem?_cons_succ, List.getElem?_cons_zero]; rfl) (fun K hK => ?_) ?_
  rotate_left 1
  · exact AllReadyH.nil
  go_simp
  refine hK.out _ _ ?_ (fun hHeld2 => ?_)
  · ((try dsimp only) <;> (obtain ⟨q0, q1, q2, q3, -⟩ := S5.out; exact ⟨q0, q1, q2, q3⟩))
  clear hHeld
  have hHeld := hHeld2
  clear hHeld2 hK K
  try simp only [Act.put, List.setIfInBounds_toArray, List.set_cons_zero, List.set_cons_succ]
  refine wpAnyH_take (i := 7) (v := ?_) (by simp only [List.getElem?_toArray, List.getElem?_cons_succ, List.getElem?_cons_zero]; rfl) (by kernel_rfl) (by kernel_rfl) (by kernel_rfl) (fun _ _ _ h => h) (Or.inl ⟨by rfl, ?_⟩) (by assumption) ?_
  rotate_left 1
  · (intro w hSw; (try dsimp only at hSw); go_simp; try with_reducible rfl)
  try simp only [Act.put, List.setIfInBounds_toArray, List.set_cons_zero, List.set_cons_succ]
  refine wpAnyH_done (by kernel_rfl) ?_ _
  refine NoPanic.normal ?_
  clear d0 d1 d2 d3 e0 e1 e2 e3 c0 c1 c2 c3 f0 f1 f2 f3 hHeld
  obtain ⟨d0, d1, d2, d3, -⟩ := blk4 Y5.out.2
  go_wp2_with fail
  refine bodyPost_ret (v := .tuple #[.pointer (some ⟨d, 0, none⟩), .agg #[.slice As D.sure.length cs, .slice Aq D.queue.length cq, .int .i64 (D.steps : Int), .int .i64 D.left], .bool true]) (by simp [results, Try.results22, go_sem, d0, d1, d2, d3]) rfl ?_
  exact ⟨d, D, As, cs, Aq, cq, rfl, Y5.out.1.pj.drew, fun g t c hg => ⟨(Y5.out.1.drew.fr g t c hg).2.2, (Y5.out.1.drew.fr g t c hg).2.1⟩, rfl, Nat.le_succ _, Nat.le_succ _⟩

set_option maxHeartbeats 1000000 in
set_option maxRecDepth 100000 in
theorem play_arm_dead {w0 w : World} {d : Nat} {D : Dsk} {As : Option Addr} {cs : Nat} {Aq : Option Addr} {cq : Nat} (h : PJ w0 w d D As cs Aq cq D) (o : OpL) (hk : o.kind = 3) (hn : ¬ o.n < 0) (hl : D.left = 0) :
    Calls Try.prog 22 #[.pointer (some ⟨d, 0, none⟩), .agg (refV As cs Aq cq D), .agg (opV o)] w (Played w0 w d D As Aq) := by
  have Y0 := hide (PY.start h (refV As cs Aq cq D) (opV o) (.slice none 0 0) (.slice none 0 0) (.int .i64 0) (.int .i64 0))
  have hb0 := hide h.ld.sz
  have hok := hide h.ld.ok
  rw [refV_eq] at *
  unfold opV at *
  have HN := hide hn
  clear hn
  have HL := hide hl
  clear hl
  clear h
  generalize o.kind = kd at *
  subst hk
  go_enter Try.func22, Try.ntmps22
  go_upto_region 2 with fail
  generalize hw1 : ((w.alloc _).alloc _).alloc _ = w1 at *
  clear hw1
  obtain ⟨c0, c1, c2, c3, -⟩ := blk4 Y0.out.k0
  have o0 := Y0.out.k1.cell 0
  have p1 := Y0.out.k1.cell 1
  go_wp2_with fail
  refine (ld_arm_dead Y0.out.pj.ld o.n (by have := HN.out; omega) HL.out).mono ?_
  rintro e w2 ⟨rfl, rfl⟩
  have Y2 := hide (Y0.out)
  clear c0 c1 c2 c3 o0 p1 Y0
  obtain ⟨c0, c1, c2, c3, f0, f1, f2, f3⟩ := blk4 Y2.out.k0
  have p1 := Y2.out.k1.cell 1
  go_wp2_with fail
  have C := rarm_dead As cs Aq cq D o.n w1 (by have := HN.out; omega) HL.out
  rw [refV_eq] at C
  refine C.mono ?_
  rintro e w3 ⟨rfl, hb⟩
  have Y3 := hide (Y2.out.ref hb (Y2.out.pj.rm.below hb) (fun g hg => .inr hg) (fun g hg => .inr hg))
  clear C hb c0 c1 c2 c3 f0 f1 f2 f3 Y2 p1
  obtain ⟨c0, c1, c2, c3, f0, f1, f2, f3⟩ := blk4 Y3.out.k0
  go_upto_region 30 with fail
  have Y4 := hide (Y3.out.set4 hb0.out (.slice As D.sure.length cs) (.slice Aq D.queue.length cq) (.int .i64 (D.steps : Int)) (.int .i64 D.left))
  clear c0 c1 c2 c3 f0 f1 f2 f3 Y3
  generalize ((((w3.setCell ⟨w.heap.size, 0, none⟩ (.slice As D.sure.length cs)).setCell ⟨w.heap.size, 1, none⟩ (.slice Aq D.queue.length cq)).setCell ⟨w.heap.size, 2, none⟩ (.int .i64 (D.steps : Int))).setCell ⟨w.heap.size, 3, none⟩ (.int .i64 D.left)) = w4 at *
  have Y5 := hide (Y4.out.res hb0.out (.slice As D.sure.length cs) (.slice Aq D.queue.length cq) (.int .i64 (D.steps : Int)) (.int .i64 D.left))
  have S5 := hide (blk4 Y5.out.1.k0.drew)
  obtain ⟨c0, c1, c2, c3, f0, f1, f2, f3⟩ := blk4 Y4.out.k0
  obtain ⟨z0, z1, z2, z3, hz⟩ := Y4.out.k2
  obtain ⟨d0, d1, d2, d3, e0, e1, e2, e3⟩ := blk4 hz
  clear hz
  refine wp_region_noPanic ?_
  refine wp_region_held_drew (S := (fun w' => w'.cell? ⟨w.heap.size, 0, none⟩ = some (.slice As D.sure.length cs) ∧ w'.cell? ⟨w.heap.size, 1, none⟩ = some (.slice Aq D.queue.length cq) ∧ w'.cell? ⟨w.heap.size, 2, none⟩ = some (.int .i64 (D.steps : Int)) ∧ w'.cell? ⟨w.heap.size, 3, none⟩ = some (.int .i64 D.left))) (by kernel_rfl) ?_ (fun hHeld => ?_)
  · ((try dsimp only) <;> (first | trivial | assumption | go_keep))
  refine wpAnyH_take (i := 0) (v := ?_) (by simp only [List.getElem?_toArray, List.getElem?_cons_succ, List.getElem?_cons_zero]; rfl) (by kernel_rfl) (by kernel_rfl) (by kernel_rfl) (fun _ _ _ h => h) (Or.inl ⟨by rfl, ?_⟩) (by assumption) ?_
  rotate_left 1
  · (intro w hSw; (try dsimp only at hSw); go_simp; try with_reducible rfl)
  try simp only [Act.put, List.setIfInBounds_toArray, List.set_cons_zero, List.set_cons_succ]
  refine wpAnyH_take (i := 1) (v := ?_) (by simp only [List.getElem?_toArray, List.getElem?_cons_succ, List.getElem?_cons_zero]; rfl) (by kernel_rfl) (by kernel_rfl) (by kernel_rfl) (fun _ _ _ h => h) (Or.inl ⟨by rfl, ?_⟩) (by assumption) ?_
  rotate_left 1
  · (intro w hSw; (try dsimp only at hSw); go_simp; try with_reducible rfl)
  try simp only [Act.put, List.setIfInBounds_toArray, List.set_cons_zero, List.set_cons_succ]
  refine wpAnyH_take (i := 2) (v := ?_) (by simp only [List.getElem?_toArray, List.getElem?_cons_succ, List.getElem?_cons_zero]; rfl) (by kernel_rfl) (by kernel_rfl) (by kernel_rfl) (fun _ _ _ h => h) (Or.inl ⟨by rfl, ?_⟩) (by assumption) ?_
  rotate_left 1
  · (intro w hSw; (try dsimp only at hSw); go_simp; try with_reducible rfl)
  try simp only [Act.put, List.setIfInBounds_toArray, List.set_cons_zero, List.set_cons_succ]
  refine wpAnyH_take (i := 3) (v := ?_) (by simp only [List.getElem?_toArray, List.getElem?_cons_succ, List.getElem?_cons_zero]; rfl) (by kernel_rfl) (by kernel_rfl) (by kernel_rfl) (fun _ _ _ h => h) (Or.inl ⟨by rfl, ?_⟩) (by assumption) ?_
  rotate_left 1
  · (intro w hSw; (try dsimp only at hSw); go_simp; try with_reducible rfl)
  try simp only [Act.put, List.setIfInBounds_toArray, List.set_cons_zero, List.set_cons_succ]
  refine wpAnyH_take (i := 4) (v := ?_) (by simp only [List.getElem?_toArray, List.getElem?_cons_succ, List.getElem?_cons_zero]; rfl) (by kernel_rfl) (by kernel_rfl) (by kernel_rfl) (fun _ _ _ h => h) (Or.inl ⟨by rfl, ?_⟩) (by assumption) ?_
  rotate_left 1
  · (intro w hSw; (try dsimp only at hSw); go_simp; try with_reducible rfl)
  try simp only [Act.put, List.setIfInBounds_toArray, List.set_cons_zero, List.set_cons_succ]
  refine wpAnyH_take (i := 5) (v := ?_) (by simp only [List.getElem?_toArray, List.getElem?_cons_succ, List.getElem?_cons_zero]; rfl) (by kernel_rfl) (by kernel_rfl) (by kernel_rfl) (fun _ _ _ h => h) (Or.inl ⟨by rfl, ?_⟩) (by assumption) ?_
  rotate_left 1
  · (intro w hSw; (try dsimp only at hSw); go_simp; try with_reducible rfl)
  try simp only [Act.put, List.setIfInBounds_toArray, List.set_cons_zero, List.set_cons_succ]
  refine wpAnyH_ready (rs := [6]) (by kernel_rfl) (by simp) ?_
  refine AllReadyH.cons (by simp only [List.getElem?_toArray, List.getElem?_cons_succ, List.getElem?_cons_zero]; rfl) (fun K hK => ?_) ?_
  rotate_left 1
  · exact AllReadyH.nil
  go_simp
  refine hK.out _ _ ?_ (fun hHeld2 => ?_)
  · ((try dsimp only) <;> (obtain ⟨q0, q1, q2, q3, -⟩ := S5.out; exact ⟨q0, q1, q2, q3⟩))
  clear hHeld
  have hHeld := hHeld2
  clear hHeld2 hK K
  try simp only [Act.put, List.setIfInBounds_toArray, List.set_cons_zero, List.set_cons_succ]
  refine wpAnyH_take (i := 7) (v := ?_) (by simp only [List.getElem?_toArray, List.getElem?_cons_succ, List.getElem?_cons_zero]; rfl) (by kernel_rfl) (by kernel_rfl) (by kernel_rfl) (fun _ _ _ h => h) (Or.inl ⟨by rfl, ?_⟩) (by assumption) ?_
  rotate_left 1
  · (intro w hSw; (try dsimp only at hSw); go_simp; try with_reducible rfl)
  try simp only [Act.put, List.setIfInBounds_toArray, List.set_cons_zero, List.set_cons_succ]
  refine wpAnyH_done (by kernel_rfl) ?_ _
  refine NoPanic.normal ?_
  clear d0 d1 d2 d3 e0 e1 e2 e3 c0 c1 c2 c3 f0 f1 f2 f3 hHeld
  obtain ⟨d0, d1, d2, d3, -⟩ := blk4 Y5.out.2
  go_wp2_with fail
  refine bodyPost_ret (v := .tuple #[.pointer (some ⟨d, 0, none⟩), .agg #[.slice As D.sure.length cs, .slice Aq D.queue.length cq, .int .i64 (D.steps : Int), .int .i64 D.left], .bool true]) (by simp [results, Try.results22, go_sem, d0, d1, d2, d3]) rfl ?_
  exact ⟨d, D, As, cs, Aq, cq, rfl, Y5.out.1.pj.drew, fun g t c hg => ⟨(Y5.out.1.drew.fr g t c hg).2.2, (Y5.out.1.drew.fr g t c hg).2.1⟩, rfl, Nat.le_succ _, Nat.le_succ _⟩

set_option maxHeartbeats 1000000 in
set_option maxRecDepth 100000 in
theorem play_arm {w0 w : World} {d : Nat} {D : Dsk} {As : Option Addr} {cs : Nat} {Aq : Option Addr} {cq : Nat} (h : PJ w0 w d D As cs Aq cq D) (o : OpL) (hk : o.kind = 3) (hn : ¬ o.n < 0) (hn2 : o.n ≤ 9223372036854775807) (hl : D.left ≠ 0) :
    Calls Try.prog 22 #[.pointer (some ⟨d, 0, none⟩), .agg (refV As cs Aq cq D), .agg (opV o)] w (Played w0 w d D As Aq) := by
  have Y0 := hide (PY.start h (refV As cs Aq cq D) (opV o) (.slice none 0 0) (.slice none 0 0) (.int .i64 0) (.int .i64 0))
  have hb0 := hide h.ld.sz
  have hok := hide h.ld.ok
  rw [refV_eq] at *
  unfold opV at *
  have HN := hide hn
  clear hn
  have HN2 := hide hn2
  clear hn2
  have HL := hide hl
  clear hl
  clear h
  generalize o.kind = kd at *
  subst hk
  go_enter Try.func22, Try.ntmps22
  go_upto_region 2 with fail
  generalize hw1 : ((w.alloc _).alloc _).alloc _ = w1 at *
  clear hw1
  obtain ⟨c0, c1, c2, c3, -⟩ := blk4 Y0.out.k0
  have o0 := Y0.out.k1.cell 0
  have p1 := Y0.out.k1.cell 1
  go_wp2_with fail
  refine (ld_arm_ok2 Y0.out.pj.ld o.n (by have := HN.out; omega) HN2.out HL.out).mono ?_
  rintro e w2 ⟨rfl, hld, gs, hK, hf⟩
  have Y2 := hide (Y0.out.prog hld hK hf)
  clear hld hK hf c0 c1 c2 c3 o0 p1 Y0
  obtain ⟨c0, c1, c2, c3, f0, f1, f2, f3⟩ := blk4 Y2.out.k0
  have p1 := Y2.out.k1.cell 1
  go_wp2_with fail
  have C := rarm_ok As cs Aq cq D o.n w2 (by have := HN.out; omega) HL.out
  rw [refV_eq] at C
  refine C.mono ?_
  rintro e w3 ⟨rfl, hb⟩
  have Y3 := hide (Y2.out.ref (E' := ({ D with left := o.n } : Dsk)) hb ((Y2.out.pj.rm.below hb).to rfl rfl Y2.out.pj.ld.ok) (fun g hg => .inr hg) (fun g hg => .inr hg))
  rw [refV_eq]
  clear C hb c0 c1 c2 c3 f0 f1 f2 f3 Y2 p1
  obtain ⟨c0, c1, c2, c3, f0, f1, f2, f3⟩ := blk4 Y3.out.k0
  go_upto_region 30 with fail
  have Y4 := hide (Y3.out.set4 hb0.out (.slice As D.sure.length cs) (.slice Aq D.queue.length cq) (.int .i64 (D.steps : Int)) (.int .i64 o.n))
  clear c0 c1 c2 c3 f0 f1 f2 f3 Y3
  generalize ((((w3.setCell ⟨w.heap.size, 0, none⟩ (.slice As D.sure.length cs)).setCell ⟨w.heap.size, 1, none⟩ (.slice Aq D.queue.length cq)).setCell ⟨w.heap.size, 2, none⟩ (.int .i64 (D.steps : Int))).setCell ⟨w.heap.size, 3, none⟩ (.int .i64 o.n)) = w4 at *
  have Y5 := hide (Y4.out.res hb0.out (.slice As D.sure.length cs) (.slice Aq D.queue.length cq) (.int .i64 (D.steps : Int)) (.int .i64 o.n))
  have S5 := hide (blk4 Y5.out.1.k0.drew)
  obtain ⟨c0, c1, c2, c3, f0, f1, f2, f3⟩ := blk4 Y4.out.k0
  obtain ⟨z0, z1, z2, z3, hz⟩ := Y4.out.k2
  obtain ⟨d0, d1, d2, d3, e0, e1, e2, e3⟩ := blk4 hz
  clear hz
  refine wp_region_noPanic ?_
  refine wp_region_held_drew (S := (fun w' => w'.cell? ⟨w.heap.size, 0, none⟩ = some (.slice As D.sure.length cs) ∧ w'.cell? ⟨w.heap.size, 1, none⟩ = some (.slice Aq D.queue.length cq) ∧ w'.cell? ⟨w.heap.size, 2, none⟩ = some (.int .i64 (D.steps : Int)) ∧ w'.cell? ⟨w.heap.size, 3, none⟩ = some (.int .i64 o.n))) (by kernel_rfl) ?_ (fun hHeld => ?_)
  · ((try dsimp only) <;> (first | trivial | assumption | go_keep))
  refine wpAnyH_take (i := 0) (v := ?_) (by simp only [List.getElem?_toArray, List.getElem?_cons_succ, List.getElem?_cons_zero]; rfl) (by kernel_rfl) (by kernel_rfl) (by kernel_rfl) (fun _ _ _ h => h) (Or.inl ⟨by rfl, ?_⟩) (by assumption) ?_
  rotate_left 1
  · (intro w hSw; (try dsimp only at hSw); go_simp; try with_reducible rfl)
  try simp only [Act.put, List.setIfInBounds_toArray, List.set_cons_zero, List.set_cons_succ]
  refine wpAnyH_take (i := 1) (v := ?_) (by simp only [List.getElem?_toArray, List.getElem?_cons_succ, List.getElem?_cons_zero]; rfl) (by kernel_rfl) (by kernel_rfl) (by kernel_rfl) (fun _ _ _ h => h) (Or.inl ⟨by rfl, ?_⟩) (by assumption) ?_
  rotate_left 1
  · (intro w hSw; (try dsimp only at hSw); go_simp; try with_reducible rfl)
  try simp only [Act.put, List.setIfInBounds_toArray, List.set_cons_zero, List.set_cons_succ]
  refine wpAnyH_take (i := 2) (v := ?_) (by simp only [List.getElem?_toArray, List.getElem?_cons_succ, List.getElem?_cons_zero]; rfl) (by kernel_rfl) (by kernel_rfl) (by kernel_rfl) (fun _ _ _ h => h) (Or.inl ⟨by rfl, ?_⟩) (by assumption) ?_
  rotate_left 1
  · (intro w hSw; (try dsimp only at hSw); go_simp; try with_reducible rfl)
  try simp only [Act.put, List.setIfInBounds_toArray, List.set_cons_zero, List.set_cons_succ]
  refine wpAnyH_take (i := 3) (v := ?_) (by simp only [List.getElem?_toArray, List.getElem?_cons_succ, List.getElem?_cons_zero]; rfl) (by kernel_rfl) (by kernel_rfl) (by kernel_rfl) (fun _ _ _ h => h) (Or.inl ⟨by rfl, ?_⟩) (by assumption) ?_
  rotate_left 1
  · (intro w hSw; (try dsimp only at hSw); go_simp; try with_reducible rfl)
  try simp only [Act.put, List.setIfInBounds_toArray, List.set_cons_zero, List.set_cons_succ]
  refine wpAnyH_take (i := 4) (v := ?_) (by simp only [List.getElem?_toArray, List.getElem?_cons_succ, List.getElem?_cons_zero]; rfl) (by kernel_rfl) (by kernel_rfl) (by kernel_rfl) (fun _ _ _ h => h) (Or.inl ⟨by rfl, ?_⟩) (by assumption) ?_
  rotate_left 1
  · (intro w hSw; (try dsimp only at hSw); go_simp; try with_reducible rfl)
  try simp only [Act.put, List.setIfInBounds_toArray, List.set_cons_zero, List.set_cons_succ]
  refine wpAnyH_take (i := 5) (v := ?_) (by simp only [List.getElem?_toArray, List.getElem?_cons_succ, List.getElem?_cons_zero]; rfl) (by kernel_rfl) (by kernel_rfl) (by kernel_rfl) (fun _ _ _ h => h) (Or.inl ⟨by rfl, ?_⟩) (by assumption) ?_
  rotate_left 1
  · (intro w hSw; (try dsimp only at hSw); go_simp; try with_reducible rfl)
  try simp only [Act.put, List.setIfInBounds_toArray, List.set_cons_zero, List.set_cons_succ]
  refine wpAnyH_ready (rs := [6]) (by kernel_rfl) (by simp) ?_
  refine AllReadyH.cons (by simp only [List.getElem?_toArray, List.getElem?_cons_succ, List.getElem?_cons_zero]; rfl) (fun K hK => ?_) ?_
  rotate_left 1
  · exact AllReadyH.nil
  go_simp
  refine hK.out _ _ ?_ (fun hHeld2 => ?_)
  · ((try dsimp only) <;> (obtain ⟨q0, q1, q2, q3, -⟩ := S5.out; exact ⟨q0, q1, q2, q3⟩))
  clear hHeld
  have hHeld := hHeld2
  clear hHeld2 hK K
  try simp only [Act.put, List.setIfInBounds_toArray, List.set_cons_zero, List.set_cons_succ]
  refine wpAnyH_take (i := 7) (v := ?_) (by simp only [List.getElem?_toArray, List.getElem?_cons_succ, List.getElem?_cons_zero]; rfl) (by kernel_rfl) (by kernel_rfl) (by kernel_rfl) (fun _ _ _ h => h) (Or.inl ⟨by rfl, ?_⟩) (by assumption) ?_
  rotate_left 1
  · (intro w hSw; (try dsimp only at hSw); go_simp; try with_reducible rfl)
  try simp only [Act.put, List.setIfInBounds_toArray, List.set_cons_zero, List.set_cons_succ]
  refine wpAnyH_done (by kernel_rfl) ?_ _
  refine NoPanic.normal ?_
  clear d0 d1 d2 d3 e0 e1 e2 e3 c0 c1 c2 c3 f0 f1 f2 f3 hHeld
  obtain ⟨d0, d1, d2, d3, -⟩ := blk4 Y5.out.2
  go_wp2_with fail
  refine bodyPost_ret (v := .tuple #[.pointer (some ⟨d, 0, none⟩), .agg #[.slice As D.sure.length cs, .slice Aq D.queue.length cq, .int .i64 (D.steps : Int), .int .i64 o.n], .bool true]) (by simp [results, Try.results22, go_sem, d0, d1, d2, d3]) rfl ?_
  exact ⟨d, { D with left := o.n }, As, cs, Aq, cq, rfl, Y5.out.1.pj.drew, fun g t c hg => ⟨(Y5.out.1.drew.fr g t c hg).2.2, (Y5.out.1.drew.fr g t c hg).2.1⟩, rfl, Nat.le_succ _, Nat.le_succ _⟩

set_option maxHeartbeats 1000000 in
set_option maxRecDepth 100000 in
theorem play_other {w0 w : World} {d : Nat} {D : Dsk} {As : Option Addr} {cs : Nat} {Aq : Option Addr} {cq : Nat} (h : PJ w0 w d D As cs Aq cq D) (o : OpL) (h1 : o.kind ≠ 1) (h2 : o.kind ≠ 2) (h3 : o.kind ≠ 3) (h4 : o.kind ≠ 4) :
    Calls Try.prog 22 #[.pointer (some ⟨d, 0, none⟩), .agg (refV As cs Aq cq D), .agg (opV o)] w (Played w0 w d D As Aq) := by
  have Y0 := hide (PY.start h (refV As cs Aq cq D) (opV o) (.slice none 0 0) (.slice none 0 0) (.int .i64 0) (.int .i64 0))
  have hb0 := hide h.ld.sz
  have hok := hide h.ld.ok
  rw [refV_eq] at *
  unfold opV at *
  clear h
  generalize o.kind = kd at *
  have k1 : (kd == 1) = false := by simpa using h1
  have k2 : (kd == 2) = false := by simpa using h2
  have k3 : (kd == 3) = false := by simpa using h3
  have k4 : (kd == 4) = false := by simpa using h4
  clear h1 h2 h3 h4
  go_enter Try.func22, Try.ntmps22
  go_upto_region 2 with fail
  generalize hw1 : ((w.alloc _).alloc _).alloc _ = w1 at *
  clear hw1
  obtain ⟨c0, c1, c2, c3, -⟩ := blk4 Y0.out.k0
  have o0 := Y0.out.k1.cell 0
  go_upto_region 30 with fail
  clear c0 c1 c2 c3 o0
  have Y5 := hide (Y0.out.res hb0.out (.slice As D.sure.length cs) (.slice Aq D.queue.length cq) (.int .i64 (D.steps : Int)) (.int .i64 D.left))
  have S5 := hide (blk4 Y5.out.1.k0.drew)
  obtain ⟨c0, c1, c2, c3, f0, f1, f2, f3⟩ := blk4 Y0.out.k0
  obtain ⟨z0, z1, z2, z3, hz⟩ := Y0.out.k2
  obtain ⟨d0, d1, d2, d3, e0, e1, e2, e3⟩ := blk4 hz
  clear hz
  refine wp_region_noPanic ?_
  refine wp_region_held_drew (S := (fun w' => w'.cell? ⟨w.heap.size, 0, none⟩ = some (.slice As D.sure.length cs) ∧ w'.cell? ⟨w.heap.size, 1, none⟩ = some (.slice Aq D.queue.length cq) ∧ w'.cell? ⟨w.heap.size, 2, none⟩ = some (.int .i64 (D.steps : Int)) ∧ w'.cell? ⟨w.heap.size, 3, none⟩ = some (.int .i64 D.left))) (by kernel_rfl) ?_ (fun hHeld => ?_)
  · ((try dsimp only) <;> (first | trivial | assumption | go_keep))
  refine wpAnyH_take (i := 0) (v := ?_) (by simp only [List.getElem?_toArray, List.getElem?_cons_succ, List.getElem?_cons_zero]; rfl) (by kernel_rfl) (by kernel_rfl) (by kernel_rfl) (fun _ _ _ h => h) (Or.inl ⟨by rfl, ?_⟩) (by assumption) ?_
  rotate_left 1
  · (intro w hSw; (try dsimp only at hSw); go_simp; try with_reducible rfl)
  try simp only [Act.put, List.setIfInBounds_toArray, List.set_cons_zero, List.set_cons_succ]
  refine wpAnyH_take (i := 1) (v := ?_) (by simp only [List.getElem?_toArray, List.getElem?_cons_succ, List.getElem?_cons_zero]; rfl) (by kernel_rfl) (by kernel_rfl) (by kernel_rfl) (fun _ _ _ h => h) (Or.inl ⟨by rfl, ?_⟩) (by assumption) ?_
  rotate_left 1
  · (intro w hSw; (try dsimp only at hSw); go_simp; try with_reducible rfl)
  try simp only [Act.put, List.setIfInBounds_toArray, List.set_cons_zero, List.set_cons_succ]
  refine wpAnyH_take (i := 2) (v := ?_) (by simp only [List.getElem?_toArray, List.getElem?_cons_succ, List.getElem?_cons_zero]; rfl) (by kernel_rfl) (by kernel_rfl) (by kernel_rfl) (fun _ _ _ h => h) (Or.inl ⟨by rfl, ?_⟩) (by assumption) ?_
  rotate_left 1
  · (intro w hSw; (try dsimp only at hSw); go_simp; try with_reducible rfl)
  try simp only [Act.put, List.setIfInBounds_toArray, List.set_cons_zero, List.set_cons_succ]
  refine wpAnyH_take (i := 3) (v := ?_) (by simp only [List.getElem?_toArray, List.getElem?_cons_succ, List.getElem?_cons_zero]; rfl) (by kernel_rfl) (by kernel_rfl) (by kernel_rfl) (fun _ _ _ h => h) (Or.inl ⟨by rfl, ?_⟩) (by assumption) ?_
  rotate_left 1
  · (intro w hSw; (try dsimp only at hSw); go_simp; try with_reducible rfl)
  try simp only [Act.put, List.setIfInBounds_toArray, List.set_cons_zero, List.set_cons_succ]
  refine wpAnyH_take (i := 4) (v := ?_) (by simp only [List.getElem?_toArray, List.getElem?_cons_succ, List.getElem?_cons_zero]; rfl) (by kernel_rfl) (by kernel_rfl) (by kernel_rfl) (fun _ _ _ h => h) (Or.inl ⟨by rfl, ?_⟩) (by assumption) ?_
  rotate_left 1
  · (intro w hSw; (try dsimp only at hSw); go_simp; try with_reducible rfl)
  try simp only [Act.put, List.setIfInBounds_toArray, List.set_cons_zero, List.set_cons_succ]
  refine wpAnyH_take (i := 5) (v := ?_) (by simp only [List.getElem?_toArray, List.getElem?_cons_succ, List.getElem?_cons_zero]; rfl) (by kernel_rfl) (by kernel_rfl) (by kernel_rfl) (fun _ _ _ h => h) (Or.inl ⟨by rfl, ?_⟩) (by assumption) ?_
  rotate_left 1
  · (intro w hSw; (try dsimp only at hSw); go_simp; try with_reducible rfl)
  try simp only [Act.put, List.setIfInBounds_toArray, List.set_cons_zero, List.set_cons_succ]
  refine wpAnyH_ready (rs := [6]) (by kernel_rfl) (by simp) ?_
  refine AllReadyH.cons (by simp only [List.getElem?_toArray, List.getElem?_cons_succ, List.getElem?_cons_zero]; rfl) (fun K hK => ?_) ?_
  rotate_left 1
  · exact AllReadyH.nil
  go_simp
  refine hK.out _ _ ?_ (fun hHeld2 => ?_)
  · ((try dsimp only) <;> (obtain ⟨q0, q1, q2, q3, -⟩ := S5.out; exact ⟨q0, q1, q2, q3⟩))
  clear hHeld
  have hHeld := hHeld2
  clear hHeld2 hK K
  try simp only [Act.put, List.setIfInBounds_toArray, List.set_cons_zero, List.set_cons_succ]
  refine wpAnyH_take (i := 7) (v := ?_) (by simp only [List.getElem?_toArray, List.getElem?_cons_succ, List.getElem?_cons_zero]; rfl) (by kernel_rfl) (by kernel_rfl) (by kernel_rfl) (fun _ _ _ h => h) (Or.inl ⟨by rfl, ?_⟩) (by assumption) ?_
  rotate_left 1
  · (intro w hSw; (try dsimp only at hSw); go_simp; try with_reducible rfl)
  try simp only [Act.put, List.setIfInBounds_toArray, List.set_cons_zero, List.set_cons_succ]
  refine wpAnyH_done (by kernel_rfl) ?_ _
  refine NoPanic.normal ?_
  clear d0 d1 d2 d3 e0 e1 e2 e3 c0 c1 c2 c3 f0 f1 f2 f3 hHeld
  obtain ⟨d0, d1, d2, d3, -⟩ := blk4 Y5.out.2
  go_wp2_with fail
  refine bodyPost_ret (v := .tuple #[.pointer (some ⟨d, 0, none⟩), .agg #[.slice As D.sure.length cs, .slice Aq D.queue.length cq, .int .i64 (D.steps : Int), .int .i64 D.left], .bool true]) (by simp [results, Try.results22, go_sem, d0, d1, d2, d3]) rfl ?_
  exact ⟨d, D, As, cs, Aq, cq, rfl, Y5.out.1.pj.drew, fun g t c hg => ⟨(Y5.out.1.drew.fr g t c hg).2.2, (Y5.out.1.drew.fr g t c hg).2.1⟩, rfl, Nat.le_succ _, Nat.le_succ _⟩
end Go.Proofs.Ytpcaaobninnkaaa
