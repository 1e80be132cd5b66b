/- The walk over Play: a barrier. -/
import Derived.Test.YtpcaaobninnkaaaPlY
namespace Go.Proofs.Ytpcaaobninnkaaa
open Go.RowKit
attribute [local go_sem ↓] Go.wp_at_zero Go.wp_at_succ

set_option maxHeartbeats 1000000 in
set_option maxRecDepth 100000 in
theorem play_bar {w0 w : World} {d : Nat} {D : Dsk} {As : Option Addr} {cs : Nat} {Aq : Option Addr} {cq : Nat} (h : PJ w0 w d D As cs Aq cq D) (o : OpL) (hk : o.kind = 2) (hs : D.steps < 1000) (hl : D.left ≠ 0) :
    Calls Try.prog 22 #[.pointer (some ⟨d, 0, none⟩), .agg (refV As cs Aq cq D), .agg (opV o)] w (Played w0 w d D As Aq) := by
  have Y0 := hide (PY.start h (refV As cs Aq cq D) (opV o) (.slice none 0 0) (.slice none 0 0) (.int .i64 0) (.int .i64 0))
  have hb0 := hide h.ld.sz
  have hok := hide h.ld.ok
  have hlen : D.barred.sure.length = D.sure.length := putQ_len _ _
  have hlen := hide hlen
  rw [refV_eq] at *
  unfold opV at *
  have HS := hide hs
  clear hs
  have HL := hide hl
  clear hl
  clear h
  generalize o.kind = kd at *
  subst hk
  go_enter Try.func22, Try.ntmps22
  go_upto_region 2 with fail
  generalize hw1 : ((w.alloc _).alloc _).alloc _ = w1 at *
  clear hw1
  obtain ⟨c0, c1, c2, c3, -⟩ := blk4 Y0.out.k0
  have o0 := Y0.out.k1.cell 0
  go_wp2_with fail
  refine (ld_barrier Y0.out.pj.ld HL.out (by have := HS.out; omega)).mono ?_
  rintro e w2 ⟨rfl, hld, gs, hK, hf⟩
  have Y2 := hide (Y0.out.prog hld hK hf)
  clear hld hK hf c0 c1 c2 c3 o0 Y0
  obtain ⟨E, hE⟩ : ∃ E, E = D.barred := ⟨_, rfl⟩
  rw [← hE] at Y2 hlen
  replace hE := hide hE
  obtain ⟨c0, c1, c2, c3, f0, f1, f2, f3⟩ := blk4 Y2.out.k0
  have p1 := Y2.out.k1.cell 1
  go_wp2_with fail
  have C := rbar_ok w0.heap.size As cs Aq cq D w2 Y2.out.pj.rm Y2.out.pj.ld.sz HL.out (by have := HS.out; omega)
  rw [← hE.out, refV_eq] at C
  refine C.mono ?_
  rintro e w3 ⟨A', c', rfl, hrm, hb, hfr⟩
  have Y3 := hide (Y2.out.ref hb (hrm) (fun g hg => .inl (hfr g hg)) (by simp [Value.ownBlock]))
  rw [refV_eq]
  clear C hrm hb hfr c0 c1 c2 c3 f0 f1 f2 f3 Y2 p1
  obtain ⟨c0, c1, c2, c3, f0, f1, f2, f3⟩ := blk4 Y3.out.k0
  go_upto_region 30 with fail
  have Y4 := hide (Y3.out.set4 hb0.out (.slice A' E.sure.length c') (.slice none E.queue.length 0) (.int .i64 (E.steps : Int)) (.int .i64 E.left))
  clear c0 c1 c2 c3 f0 f1 f2 f3 Y3
  generalize ((((w3.setCell ⟨w.heap.size, 0, none⟩ (.slice A' E.sure.length c')).setCell ⟨w.heap.size, 1, none⟩ (.slice none E.queue.length 0)).setCell ⟨w.heap.size, 2, none⟩ (.int .i64 (E.steps : Int))).setCell ⟨w.heap.size, 3, none⟩ (.int .i64 E.left)) = w4 at *
  have Y5 := hide (Y4.out.res hb0.out (.slice A' E.sure.length c') (.slice none E.queue.length 0) (.int .i64 (E.steps : Int)) (.int .i64 E.left))
  have S5 := hide (blk4 Y5.out.1.k0.drew)
  obtain ⟨c0, c1, c2, c3, f0, f1, f2, f3⟩ := blk4 Y4.out.k0
  obtain ⟨z0, z1, z2, z3, hz⟩ := Y4.out.k2
  obtain ⟨d0, d1, d2, d3, e0, e1, e2, e3⟩ := blk4 hz
  clear hz
  refine wp_region_noPanic ?_
  refine wp_region_held_drew (S := (fun w' => w'.cell? ⟨w.heap.size, 0, none⟩ = some (.slice A' E.sure.length c') ∧ w'.cell? ⟨w.heap.size, 1, none⟩ = some (.slice none E.queue.length 0) ∧ w'.cell? ⟨w.heap.size, 2, none⟩ = some (.int .i64 (E.steps : Int)) ∧ w'.cell? ⟨w.heap.size, 3, none⟩ = some (.int .i64 E.left))) (by kernel_rfl) ?_ (fun hHeld => ?_)
  · ((try dsimp only) <;> (first | trivial | assumption | go_keep))
  refine wpAnyH_take (i := 0) (v := ?_) (by simp only [List.getElem?_toArray, List.getElem?_cons_succ, List.getElem?_cons_zero]; rfl) (by kernel_rfl) (by kernel_rfl) (by kernel_rfl) (fun _ _ _ h => h) (Or.inl ⟨by rfl, ?_⟩) (by assumption) ?_
  rotate_left 1
  · (intro w hSw; (try dsimp only at hSw); go_simp; try with_reducible rfl)
  try simp only [Act.put, List.setIfInBounds_toArray, List.set_cons_zero, List.set_cons_succ]
  refine wpAnyH_take (i := 1) (v := ?_) (by simp only [List.getElem?_toArray, List.getElem?_cons_succ, List.getElem?_cons_zero]; rfl) (by kernel_rfl) (by kernel_rfl) (by kernel_rfl) (fun _ _ _ h => h) (Or.inl ⟨by rfl, ?_⟩) (by assumption) ?_
  rotate_left 1
  · (intro w hSw; (try dsimp only at hSw); go_simp; try with_reducible rfl)
  try simp only [Act.put, List.setIfInBounds_toArray, List.set_cons_zero, List.set_cons_succ]
  refine wpAnyH_take (i := 2) (v := ?_) (by simp only [List.getElem?_toArray, List.getElem?_cons_succ, List.getElem?_cons_zero]; rfl) (by kernel_rfl) (by kernel_rfl) (by kernel_rfl) (fun _ _ _ h => h) (Or.inl ⟨by rfl, ?_⟩) (by assumption) ?_
  rotate_left 1
  · (intro w hSw; (try dsimp only at hSw); go_simp; try with_reducible rfl)
  try simp only [Act.put, List.setIfInBounds_toArray, List.set_cons_zero, List.set_cons_succ]
  refine wpAnyH_take (i := 3) (v := ?_) (by simp only [List.getElem?_toArray, List.getElem?_cons_succ, List.getElem?_cons_zero]; rfl) (by kernel_rfl) (by kernel_rfl) (by kernel_rfl) (fun _ _ _ h => h) (Or.inl ⟨by rfl, ?_⟩) (by assumption) ?_
  rotate_left 1
  · (intro w hSw; (try dsimp only at hSw); go_simp; try with_reducible rfl)
  try simp only [Act.put, List.setIfInBounds_toArray, List.set_cons_zero, List.set_cons_succ]
  refine wpAnyH_take (i := 4) (v := ?_) (by simp only [List.getElem?_toArray, List.getElem?_cons_succ, List.getElem?_cons_zero]; rfl) (by kernel_rfl) (by kernel_rfl) (by kernel_rfl) (fun _ _ _ h => h) (Or.inl ⟨by rfl, ?_⟩) (by assumption) ?_
  rotate_left 1
  · (intro w hSw; (try dsimp only at hSw); go_simp; try with_reducible rfl)
  try simp only [Act.put, List.setIfInBounds_toArray, List.set_cons_zero, List.set_cons_succ]
  refine wpAnyH_take (i := 5) (v := ?_) (by simp only [List.getElem?_toArray, List.getElem?_cons_succ, List.getElem?_cons_zero]; rfl) (by kernel_rfl) (by kernel_rfl) (by kernel_rfl) (fun _ _ _ h => h) (Or.inl ⟨by rfl, ?_⟩) (by assumption) ?_
  rotate_left 1
  · (intro w hSw; (try dsimp only at hSw); go_simp; try with_reducible rfl)
  try simp only [Act.put, List.setIfInBounds_toArray, List.set_cons_zero, List.set_cons_succ]
  refine wpAnyH_ready (rs := [6]) (by kernel_rfl) (by simp) ?_
  refine AllReadyH.cons (by simp only [List.getElem?_toArray, List.getElem?_cons_succ, List.getElem?_cons_zero]; rfl) (fun K hK => ?_) ?_
  rotate_left 1
  · exact AllReadyH.nil
  go_simp
  refine hK.out _ _ ?_ (fun hHeld2 => ?_)
  · ((try dsimp only) <;> (obtain ⟨q0, q1, q2, q3, -⟩ := S5.out; exact ⟨q0, q1, q2, q3⟩))
  clear hHeld
  have hHeld := hHeld2
  clear hHeld2 hK K
  try simp only [Act.put, List.setIfInBounds_toArray, List.set_cons_zero, List.set_cons_succ]
  refine wpAnyH_take (i := 7) (v := ?_) (by simp only [List.getElem?_toArray, List.getElem?_cons_succ, List.getElem?_cons_zero]; rfl) (by kernel_rfl) (by kernel_rfl) (by kernel_rfl) (fun _ _ _ h => h) (Or.inl ⟨by rfl, ?_⟩) (by assumption) ?_
  rotate_left 1
  · (intro w hSw; (try dsimp only at hSw); go_simp; try with_reducible rfl)
  try simp only [Act.put, List.setIfInBounds_toArray, List.set_cons_zero, List.set_cons_succ]
  refine wpAnyH_done (by kernel_rfl) ?_ _
  refine NoPanic.normal ?_
  clear d0 d1 d2 d3 e0 e1 e2 e3 c0 c1 c2 c3 f0 f1 f2 f3 hHeld
  obtain ⟨d0, d1, d2, d3, -⟩ := blk4 Y5.out.2
  go_wp2_with fail
  refine bodyPost_ret (v := .tuple #[.pointer (some ⟨d, 0, none⟩), .agg #[.slice A' E.sure.length c', .slice none E.queue.length 0, .int .i64 (E.steps : Int), .int .i64 E.left], .bool true]) (by simp [results, Try.results22, go_sem, d0, d1, d2, d3]) rfl ?_
  exact ⟨d, E, A', c', none, 0, rfl, Y5.out.1.pj.drew, fun g t c hg => ⟨(Y5.out.1.drew.fr g t c hg).2.2, (Y5.out.1.drew.fr g t c hg).2.1⟩, hlen.out, (by rw [hE.out]; exact Nat.le_refl _), (by rw [hE.out]; exact Nat.zero_le _)⟩

set_option maxHeartbeats 1000000 in
set_option maxRecDepth 100000 in
theorem play_bar_dead {w0 w : World} {d : Nat} {D : Dsk} {As : Option Addr} {cs : Nat} {Aq : Option Addr} {cq : Nat} (h : PJ w0 w d D As cs Aq cq D) (o : OpL) (hk : o.kind = 2) (hl : D.left = 0) :
    Calls Try.prog 22 #[.pointer (some ⟨d, 0, none⟩), .agg (refV As cs Aq cq D), .agg (opV o)] w (Played w0 w d D As Aq) := by
  have Y0 := hide (PY.start h (refV As cs Aq cq D) (opV o) (.slice none 0 0) (.slice none 0 0) (.int .i64 0) (.int .i64 0))
  have hb0 := hide h.ld.sz
  have hok := hide h.ld.ok
  rw [refV_eq] at *
  unfold opV at *
  have HL := hide hl
  clear hl
  clear h
  generalize o.kind = kd at *
  subst hk
  go_enter Try.func22, Try.ntmps22
  go_upto_region 2 with fail
  generalize hw1 : ((w.alloc _).alloc _).alloc _ = w1 at *
  clear hw1
  obtain ⟨c0, c1, c2, c3, -⟩ := blk4 Y0.out.k0
  have o0 := Y0.out.k1.cell 0
  go_wp2_with fail
  refine (ld_barrier_dead Y0.out.pj.ld HL.out).mono ?_
  rintro e w2 ⟨rfl, rfl⟩
  have Y2 := hide (Y0.out)
  clear c0 c1 c2 c3 o0 Y0
  obtain ⟨c0, c1, c2, c3, f0, f1, f2, f3⟩ := blk4 Y2.out.k0
  have p1 := Y2.out.k1.cell 1
  go_wp2_with fail
  have C := rbar_dead As cs Aq cq D w1 HL.out
  rw [refV_eq] at C
  refine C.mono ?_
  rintro e w3 ⟨rfl, hb⟩
  have Y3 := hide (Y2.out.ref hb (Y2.out.pj.rm.below hb) (fun g hg => .inr hg) (fun g hg => .inr hg))
  clear C hb c0 c1 c2 c3 f0 f1 f2 f3 Y2 p1
  obtain ⟨c0, c1, c2, c3, f0, f1, f2, f3⟩ := blk4 Y3.out.k0
  go_upto_region 30 with fail
  have Y4 := hide (Y3.out.set4 hb0.out (.slice As D.sure.length cs) (.slice Aq D.queue.length cq) (.int .i64 (D.steps : Int)) (.int .i64 D.left))
  clear c0 c1 c2 c3 f0 f1 f2 f3 Y3
  generalize ((((w3.setCell ⟨w.heap.size, 0, none⟩ (.slice As D.sure.length cs)).setCell ⟨w.heap.size, 1, none⟩ (.slice Aq D.queue.length cq)).setCell ⟨w.heap.size, 2, none⟩ (.int .i64 (D.steps : Int))).setCell ⟨w.heap.size, 3, none⟩ (.int .i64 D.left)) = w4 at *
  have Y5 := hide (Y4.out.res hb0.out (.slice As D.sure.length cs) (.slice Aq D.queue.length cq) (.int .i64 (D.steps : Int)) (.int .i64 D.left))
  have S5 := hide (blk4 Y5.out.1.k0.drew)
  obtain ⟨c0, c1, c2, c3, f0, f1, f2, f3⟩ := blk4 Y4.out.k0
  obtain ⟨z0, z1, z2, z3, hz⟩ := Y4.out.k2
  obtain ⟨d0, d1, d2, d3, e0, e1, e2, e3⟩ := blk4 hz
  clear hz
  refine wp_region_noPanic ?_
  refine wp_region_held_drew (S := (fun w' => w'.cell? ⟨w.heap.size, 0, none⟩ = some (.slice As D.sure.length cs) ∧ w'.cell? ⟨w.heap.size, 1, none⟩ = some (.slice Aq D.queue.length cq) ∧ w'.cell? ⟨w.heap.size, 2, none⟩ = some (.int .i64 (D.steps : Int)) ∧ w'.cell? ⟨w.heap.size, 3, none⟩ = some (.int .i64 D.left))) (by kernel_rfl) ?_ (fun hHeld => ?_)
  · ((try dsimp only) <;> (first | trivial | assumption | go_keep))
  refine wpAnyH_take (i := 0) (v := ?_) (by simp only [List.getElem?_toArray, List.getElem?_cons_succ, List.getElem?_cons_zero]; rfl) (by kernel_rfl) (by kernel_rfl) (by kernel_rfl) (fun _ _ _ h => h) (Or.inl ⟨by rfl, ?_⟩) (by assumption) ?_
  rotate_left 1
  · (intro w hSw; (try dsimp only at hSw); go_simp; try with_reducible rfl)
  try simp only [Act.put, List.setIfInBounds_toArray, List.set_cons_zero, List.set_cons_succ]
  refine wpAnyH_take (i := 1) (v := ?_) (by simp only [List.getElem?_toArray, List.getElem?_cons_succ, List.getElem?_cons_zero]; rfl) (by kernel_rfl) (by kernel_rfl) (by kernel_rfl) (fun _ _ _ h => h) (Or.inl ⟨by rfl, ?_⟩) (by assumption) ?_
  rotate_left 1
  · (intro w hSw; (try dsimp only at hSw); go_simp; try with_reducible rfl)
  try simp only [Act.put, List.setIfInBounds_toArray, List.set_cons_zero, List.set_cons_succ]
  refine wpAnyH_take (i := 2) (v := ?_) (by simp only [List.getElem?_toArray, List.getElem?_cons_succ, List.getElem?_cons_zero]; rfl) (by kernel_rfl) (by kernel_rfl) (by kernel_rfl) (fun _ _ _ h => h) (Or.inl ⟨by rfl, ?_⟩) (by assumption) ?_
  rotate_left 1
  · (intro w hSw; (try dsimp only at hSw); go_simp; try with_reducible rfl)
  try simp only [Act.put, List.setIfInBounds_toArray, List.set_cons_zero, List.set_cons_succ]
  refine wpAnyH_take (i := 3) (v := ?_) (by simp only [List.getElem?_toArray, List.getElem?_cons_succ, List.getElem?_cons_zero]; rfl) (by kernel_rfl) (by kernel_rfl) (by kernel_rfl) (fun _ _ _ h => h) (Or.inl ⟨by rfl, ?_⟩) (by assumption) ?_
  rotate_left 1
  · (intro w hSw; (try dsimp only at hSw); go_simp; try with_reducible rfl)
  try simp only [Act.put, List.setIfInBounds_toArray, List.set_cons_zero, List.set_cons_succ]
  refine wpAnyH_take (i := 4) (v := ?_) (by simp only [List.getElem?_toArray, List.getElem?_cons_succ, List.getElem?_cons_zero]; rfl) (by kernel_rfl) (by kernel_rfl) (by kernel_rfl) (fun _ _ _ h => h) (Or.inl ⟨by rfl, ?_⟩) (by assumption) ?_
  rotate_left 1
  · (intro w hSw; (try dsimp only at hSw); go_simp; try with_reducible rfl)
  try simp only [Act.put, List.setIfInBounds_toArray, List.set_cons_zero, List.set_cons_succ]
  refine wpAnyH_take (i := 5) (v := ?_) (by simp only [List.getElem?_toArray, List.getElem?_cons_succ, List.getElem?_cons_zero]; rfl) (by kernel_rfl) (by kernel_rfl) (by kernel_rfl) (fun _ _ _ h => h) (Or.inl ⟨by rfl, ?_⟩) (by assumption) ?_
  rotate_left 1
  · (intro w hSw; (try dsimp only at hSw); go_simp; try with_reducible rfl)
  try simp only [Act.put, List.setIfInBounds_toArray, List.set_cons_zero, List.set_cons_succ]
  refine wpAnyH_ready (rs := [6]) (by kernel_rfl) (by simp) ?_
  refine AllReadyH.cons (by simp only [List.getElem?_toArray, List.getElem?_cons_succ, List.getElem?_cons_zero]; rfl) (fun K hK => ?_) ?_
  rotate_left 1
  · exact AllReadyH.nil
  go_simp
  refine hK.out _ _ ?_ (fun hHeld2 => ?_)
  · ((try dsimp only) <;> (obtain ⟨q0, q1, q2, q3, -⟩ := S5.out; exact ⟨q0, q1, q2, q3⟩))
  clear hHeld
  have hHeld := hHeld2
  clear hHeld2 hK K
  try simp only [Act.put, List.setIfInBounds_toArray, List.set_cons_zero, List.set_cons_succ]
  refine wpAnyH_take (i := 7) (v := ?_) (by simp only [List.getElem?_toArray, List.getElem?_cons_succ, List.getElem?_cons_zero]; rfl) (by kernel_rfl) (by kernel_rfl) (by kernel_rfl) (fun _ _ _ h => h) (Or.inl ⟨by rfl, ?_⟩) (by assumption) ?_
  rotate_left 1
  · (intro w hSw; (try dsimp only at hSw); go_simp; try with_reducible rfl)
  try simp only [Act.put, List.setIfInBounds_toArray, List.set_cons_zero, List.set_cons_succ]
  refine wpAnyH_done (by kernel_rfl) ?_ _
  refine NoPanic.normal ?_
  clear d0 d1 d2 d3 e0 e1 e2 e3 c0 c1 c2 c3 f0 f1 f2 f3 hHeld
  obtain ⟨d0, d1, d2, d3, -⟩ := blk4 Y5.out.2
  go_wp2_with fail
  refine bodyPost_ret (v := .tuple #[.pointer (some ⟨d, 0, none⟩), .agg #[.slice As D.sure.length cs, .slice Aq D.queue.length cq, .int .i64 (D.steps : Int), .int .i64 D.left], .bool true]) (by simp [results, Try.results22, go_sem, d0, d1, d2, d3]) rfl ?_
  exact ⟨d, D, As, cs, Aq, cq, rfl, Y5.out.1.pj.drew, fun g t c hg => ⟨(Y5.out.1.drew.fr g t c hg).2.2, (Y5.out.1.drew.fr g t c hg).2.1⟩, rfl, Nat.le_succ _, Nat.le_succ _⟩
end Go.Proofs.Ytpcaaobninnkaaa
