/- The walk over Play: a crash (one). -/
import Derived.Test.YtpcaaobninnkaaaPlY
namespace Go.Proofs.Ytpcaaobninnkaaa
open Go.RowKit
attribute [local go_sem ↓] Go.wp_at_zero Go.wp_at_succ

set_option maxHeartbeats 1000000 in
set_option maxRecDepth 100000 in
theorem play_crash_one {w0 w : World} {d : Nat} {D : Dsk} {As : Option Addr} {cs : Nat} {Aq : Option Addr} {cq : Nat} (h : PJ w0 w d D As cs Aq cq D) (o : OpL) (hO : OpAt w0 w0.heap.size o) (hk : o.kind = 4) (hs : D.steps < 1000) (hq : D.queue.length < 1000) (h1 : 1 ≤ D.sure.length) (hl : D.left = 1) :
    Calls Try.prog 22 #[.pointer (some ⟨d, 0, none⟩), .agg (refV As cs Aq cq D), .agg (opV o)] w (Played w0 w d D As Aq) := by
  have Y0 := hide (PY.start h (refV As cs Aq cq D) (opV o) (.slice none 0 0) (.slice none 0 0) (.int .i64 0) (.int .i64 0))
  have hb0 := hide h.ld.sz
  have hok := hide h.ld.ok
  have HO := hide hO
  have hkr := hide hO.kc
  have hkn : o.kn ≤ 140737488351232 := Nat.le_trans hO.kc.1 hO.kc.2
  have HQ := hide hq
  have H1 := hide h1
  clear hO hq h1
  rw [refV_eq] at *
  unfold opV at *
  have HS := hide hs
  clear hs
  have HL := hide hl
  clear hl
  clear h
  generalize o.kind = kd at *
  subst hk
  go_enter Try.func22, Try.ntmps22
  go_upto_region 2 with fail
  generalize hw1 : ((w.alloc _).alloc _).alloc _ = w1 at *
  clear hw1
  obtain ⟨c0, c1, c2, c3, -⟩ := blk4 Y0.out.k0
  have o0 := Y0.out.k1.cell 0
  have p1 := Y0.out.k1.cell 1
  have p2 := Y0.out.k1.cell 2
  have p5 := Y0.out.k1.cell 5
  have hsz0 := hide Y0.out.sz
  clear c0 c1 c2 c3
  go_upto_region 24 with fail
  refine wp_region_noPanic ?_
  refine wp_region_held_drew (S := (fun w' => w'.cell? ⟨w.heap.size + 1, 5, none⟩ = some (.slice o.kA o.kn o.kc) ∧ w'.cell? ⟨w.heap.size + 1, 1, none⟩ = some (.int .i64 o.n) ∧ w'.cell? ⟨w.heap.size + 1, 2, none⟩ = some (.int .i64 o.sectors))) (by kernel_rfl) ?_ (fun hHeld => ?_)
  · ((try dsimp only) <;> (first | trivial | assumption | go_keep))
  refine wpAnyH_take (i := 0) (v := ?_) (by simp only [List.getElem?_toArray, List.getElem?_cons_succ, List.getElem?_cons_zero]; rfl) (by kernel_rfl) (by kernel_rfl) (by kernel_rfl) (fun _ _ _ h => h) (Or.inl ⟨by rfl, ?_⟩) (by assumption) ?_
  rotate_left 1
  · (intro w hSw; (try dsimp only at hSw); go_simp; try with_reducible rfl)
  try simp only [Act.put, List.setIfInBounds_toArray, List.set_cons_zero, List.set_cons_succ]
  refine wpAnyH_take (i := 2) (v := ?_) (by simp only [List.getElem?_toArray, List.getElem?_cons_succ, List.getElem?_cons_zero]; rfl) (by kernel_rfl) (by kernel_rfl) (by kernel_rfl) (fun _ _ _ h => h) (Or.inl ⟨by rfl, ?_⟩) (by assumption) ?_
  rotate_left 1
  · (intro w hSw; (try dsimp only at hSw); go_simp; try with_reducible rfl)
  try simp only [Act.put, List.setIfInBounds_toArray, List.set_cons_zero, List.set_cons_succ]
  refine wpAnyH_take (i := 3) (v := ?_) (by simp only [List.getElem?_toArray, List.getElem?_cons_succ, List.getElem?_cons_zero]; rfl) (by kernel_rfl) (by kernel_rfl) (by kernel_rfl) (fun _ _ _ h => h) (Or.inl ⟨by rfl, ?_⟩) (by assumption) ?_
  rotate_left 1
  · (intro w hSw; (try dsimp only at hSw); go_simp; try with_reducible rfl)
  try simp only [Act.put, List.setIfInBounds_toArray, List.set_cons_zero, List.set_cons_succ]
  refine wpAnyH_take (i := 5) (v := ?_) (by simp only [List.getElem?_toArray, List.getElem?_cons_succ, List.getElem?_cons_zero]; rfl) (by kernel_rfl) (by kernel_rfl) (by kernel_rfl) (fun _ _ _ h => h) (Or.inl ⟨by rfl, ?_⟩) (by assumption) ?_
  rotate_left 1
  · (intro w hSw; (try dsimp only at hSw); go_simp; try with_reducible rfl)
  try simp only [Act.put, List.setIfInBounds_toArray, List.set_cons_zero, List.set_cons_succ]
  refine wpAnyH_take (i := 6) (v := ?_) (by simp only [List.getElem?_toArray, List.getElem?_cons_succ, List.getElem?_cons_zero]; rfl) (by kernel_rfl) (by kernel_rfl) (by kernel_rfl) (fun _ _ _ h => h) (Or.inl ⟨by rfl, ?_⟩) (by assumption) ?_
  rotate_left 1
  · (intro w hSw; (try dsimp only at hSw); go_simp; try with_reducible rfl)
  try simp only [Act.put, List.setIfInBounds_toArray, List.set_cons_zero, List.set_cons_succ]
  refine wpAnyH_take (i := 7) (v := ?_) (by simp only [List.getElem?_toArray, List.getElem?_cons_succ, List.getElem?_cons_zero]; rfl) (by kernel_rfl) (by kernel_rfl) (by kernel_rfl) (fun _ _ _ h => h) (Or.inl ⟨by rfl, ?_⟩) (by assumption) ?_
  rotate_left 1
  · (intro w hSw; (try dsimp only at hSw); go_simp; try with_reducible rfl)
  try simp only [Act.put, List.setIfInBounds_toArray, List.set_cons_zero, List.set_cons_succ]
  refine wpAnyH_take (i := 8) (v := ?_) (by simp only [List.getElem?_toArray, List.getElem?_cons_succ, List.getElem?_cons_zero]; rfl) (by kernel_rfl) (by kernel_rfl) (by kernel_rfl) (fun _ _ _ h => h) (Or.inl ⟨by rfl, ?_⟩) (by assumption) ?_
  rotate_left 1
  · (intro w hSw; (try dsimp only at hSw); go_simp; try with_reducible rfl)
  try simp only [Act.put, List.setIfInBounds_toArray, List.set_cons_zero, List.set_cons_succ]
  refine wpAnyH_ready (rs := [1]) (by kernel_rfl) (by simp) ?_
  refine AllReadyH.cons (by simp only [List.getElem?_toArray, List.getElem?_cons_succ, List.getElem?_cons_zero]; rfl) (fun K hK => ?_) ?_
  rotate_left 1
  · exact AllReadyH.nil
  go_simp
  refine hK.out _ _ ?_ (fun hHeld2 => ?_)
  · ((try dsimp only) <;> (first | trivial | assumption | go_keep))
  clear hHeld
  have hHeld := hHeld2
  clear hHeld2 hK K
  try simp only [Act.put, List.setIfInBounds_toArray, List.set_cons_zero, List.set_cons_succ]
  have BK : Hid (Sl w1 w0.heap.size o.kA o.kn (o.keep.map Value.bool)) := hide (HO.out.below Y0.out.pj.ld.bel).keep
  refine wpAnyH_ready (rs := [4]) (by kernel_rfl) (by simp) ?_
  refine AllReadyH.cons (by simp only [List.getElem?_toArray, List.getElem?_cons_succ, List.getElem?_cons_zero]; rfl) (fun K hK => ?_) ?_
  rotate_left 1
  · exact AllReadyH.nil
  refine step_app rfl (.tmp 92) (.tmp 94) _ (by rfl) etyBool w1.heap.size (.slice (some ⟨w1.heap.size, 0, none⟩) 0 0) 0 [] (by rfl) (own_kp (own_made (w := w1) (Nat.le_refl _)) ((Kp.refl [] _).drew) (by simp)) _ o.kA o.kn o.kc (o.keep.map Value.bool) (by rfl) (BK.out.keep (fun p hp => World.cell?_alloc_lt _ _ p (by have := Y0.out.pj.ld.sz; omega))) (fun u hu => by obtain ⟨_, _, rfl⟩ := List.mem_map.1 hu; rfl) (by omega) (by simp) ?_; intro A3 c3 w3 hown3 hg3 hat3; simp only [Nat.zero_add, List.nil_append] at hown3 hat3; have hB3 := bel_grow ((Below.refl w1.heap.size w1).alloc (Nat.le_refl _) (.cells #[] 4)).drew hg3 (fun k hk => by simp only [Value.ownBlock, Option.some.injEq] at hk; omega); have Y3 := hide (Y0.out.below hB3); have BK3 := hide (Sl.of_own hown3); clear hown3 hg3 hat3 hB3
  refine hK.out _ _ ?_ (fun hHeld2 => ?_)
  · ((try dsimp only) <;> (exact ⟨Y3.out.k1.cell 5, Y3.out.k1.cell 1, Y3.out.k1.cell 2⟩))
  clear hHeld
  have hHeld := hHeld2
  clear hHeld2 hK K
  try simp only [Act.put, List.setIfInBounds_toArray, List.set_cons_zero, List.set_cons_succ]
  refine wpAnyH_ready (rs := [9]) (by kernel_rfl) (by simp) ?_
  refine AllReadyH.cons (by simp only [List.getElem?_toArray, List.getElem?_cons_succ, List.getElem?_cons_zero]; rfl) (fun K hK => ?_) ?_
  rotate_left 1
  · exact AllReadyH.nil
  go_simp
  refine (ld_crash Y3.out.pj.ld H1.out w3.heap.size A3 o.kn c3 o.keep BK3.out (Nat.le_refl _) (by omega) o.n o.sectors).mono ?_; rintro e w4 ⟨c, cap, pad, rfl, hc⟩; have P4 := hide (PC.of Y3.out.pj hc); have Y4 := hide (Y3.out.below hc.bel); have hB4 := hide Y3.out.sz; clear hc Y3 BK3; obtain ⟨C, hC⟩ : ∃ C, C = D.crashed (crashF o.keep o.n o.sectors) cap pad := ⟨_, rfl⟩; rw [← hC] at P4; replace hC := hide hC; go_wp2_with fail
  refine hK.out _ _ ?_ (fun hHeld2 => ?_)
  · ((try dsimp only) <;> (exact ⟨Y4.out.k1.cell 5, Y4.out.k1.cell 1, Y4.out.k1.cell 2⟩))
  clear hHeld
  have hHeld := hHeld2
  clear hHeld2 hK K
  try simp only [Act.put, List.setIfInBounds_toArray, List.set_cons_zero, List.set_cons_succ]
  refine wpAnyH_take (i := 10) (v := ?_) (by simp only [List.getElem?_toArray, List.getElem?_cons_succ, List.getElem?_cons_zero]; rfl) (by kernel_rfl) (by kernel_rfl) (by kernel_rfl) (fun _ _ _ h => h) (Or.inl ⟨by rfl, ?_⟩) (by assumption) ?_
  rotate_left 1
  · (intro w hSw; (try dsimp only at hSw); go_simp; try with_reducible rfl)
  try simp only [Act.put, List.setIfInBounds_toArray, List.set_cons_zero, List.set_cons_succ]
  refine wpAnyH_done (by kernel_rfl) ?_ _
  refine NoPanic.normal ?_
  clear hHeld p1 p2 p5 o0 BK hsz0 Y0
  obtain ⟨c0, c1, c2, c4, f0, f1, f2, f3⟩ := blk4 Y4.out.k0
  go_wp2_with fail
  have C5 := tells_any w4 d D w0.heap.size As cs Aq cq Y4.out.pj.ld Y4.out.pj.rm
  rw [refV_eq] at C5
  refine C5.mono ?_
  rintro e w5 ⟨rfl, hb⟩
  have P5 := hide (P4.out.below hb)
  have Y5 := hide (Y4.out.below hb)
  clear hb C5 P4 Y4 c0 c1 c2 c4 f0 f1 f2 f3
  go_wp2_with fail
  refine (ld_bytes _ (w5.heap.size + 1) _ 1 1 [77] (by_new w5 77) (by simp) (by decide)).mono ?_
  rintro e w6 ⟨gb, rfl, hgb, hbk, hbl⟩
  have P6 := hide ((P5.out.alloc (.cells #[.int .u8 77] 5)).below hbl)
  have Y6 := hide ((Y5.out.alloc (.cells #[.int .u8 77] 5)).below hbl)
  have G6 := hide hbk
  have hgd := hide (show gb ≠ d by have := Y5.out.pj.ld.lt; simp at hgb; omega)
  clear hbk hbl hgb P5 Y5
  go_wp2_with fail
  refine (ld_write Y6.out.pj.ld 0 gb _ (round64 [77]) _ (by have := H1.out; omega) (by have := HL.out; omega) (by have := HS.out; omega) (by have := HQ.out; omega) (round64_len _) G6.out u8s_at hgd.out).mono ?_
  rintro e w7 ⟨rfl, hld, gs, hK, hf⟩
  have P7 := hide (P6.out.prog hld hK hf)
  have Y7 := hide (Y6.out.prog hld hK hf)
  clear hld hK hf P6 Y6 G6
  go_wp2_with fail
  refine (ld_barrier_dead Y7.out.pj.ld (by show max (D.left - 1) (-1) = 0; have := HL.out; omega)).mono ?_
  rintro e w8 ⟨rfl, rfl⟩
  have Z := hide (PC.swap P7.out Y7.out hB4.out)
  obtain ⟨c0, c1, c2, c4, f0, f1, f2, f3⟩ := blk4 Z.out.k0
  have p1 := Z.out.k1.cell 1
  have p2 := Z.out.k1.cell 2
  have p5 := Z.out.k1.cell 5
  go_wp2_with fail
  have C9 := rcrash_any w7 w0.heap.size As cs Aq cq D Z.out.pj.rm Z.out.pj.ld.sz w0.heap.size o.kA o.kn o.kc o.keep (HO.out.below Z.out.pj.ld.bel).keep Z.out.pj.ld.sz (by omega) o.n o.sectors cap pad
  rw [← hC.out, refV_eq] at C9
  refine C9.mono ?_
  rintro e w9 ⟨A', c', rfl, hrm, hb, hfr⟩
  rw [refV_eq]
  have Z9 := hide (Z.out.ref hb hrm (fun g hg => .inl (hfr g hg)) (by simp [Value.ownBlock]))
  clear C9 hrm hb hfr c0 c1 c2 c4 f0 f1 f2 f3 p1 p2 p5 Z
  obtain ⟨c0, c1, c2, c3, f0, f1, f2, f3⟩ := blk4 Z9.out.k0
  go_upto_region 30 with fail
  have Z10 := hide (Z9.out.set4 hb0.out (.slice A' C.sure.length c') (.slice none C.queue.length 0) (.int .i64 (C.steps : Int)) (.int .i64 C.left))
  clear c0 c1 c2 c3 f0 f1 f2 f3 Z9
  generalize ((((w9.setCell ⟨w.heap.size, 0, none⟩ (.slice A' C.sure.length c')).setCell ⟨w.heap.size, 1, none⟩ (.slice none C.queue.length 0)).setCell ⟨w.heap.size, 2, none⟩ (.int .i64 (C.steps : Int))).setCell ⟨w.heap.size, 3, none⟩ (.int .i64 C.left)) = w10 at *
  have Y5 := hide (Z10.out.res hb0.out (.slice A' C.sure.length c') (.slice none C.queue.length 0) (.int .i64 (C.steps : Int)) (.int .i64 C.left))
  have S5 := hide (blk4 Y5.out.1.k0.drew)
  obtain ⟨c0, c1, c2, c3, f0, f1, f2, f3⟩ := blk4 Z10.out.k0
  obtain ⟨z0, z1, z2, z3, hz⟩ := Z10.out.k2
  obtain ⟨d0, d1, d2, d3, e0, e1, e2, e3⟩ := blk4 hz
  clear hz
  refine wp_region_noPanic ?_
  refine wp_region_held_drew (S := (fun w' => w'.cell? ⟨w.heap.size, 0, none⟩ = some (.slice A' C.sure.length c') ∧ w'.cell? ⟨w.heap.size, 1, none⟩ = some (.slice none C.queue.length 0) ∧ w'.cell? ⟨w.heap.size, 2, none⟩ = some (.int .i64 (C.steps : Int)) ∧ w'.cell? ⟨w.heap.size, 3, none⟩ = some (.int .i64 C.left))) (by kernel_rfl) ?_ (fun hHeld => ?_)
  · ((try dsimp only) <;> (first | trivial | assumption | go_keep))
  refine wpAnyH_take (i := 0) (v := ?_) (by simp only [List.getElem?_toArray, List.getElem?_cons_succ, List.getElem?_cons_zero]; rfl) (by kernel_rfl) (by kernel_rfl) (by kernel_rfl) (fun _ _ _ h => h) (Or.inl ⟨by rfl, ?_⟩) (by assumption) ?_
  rotate_left 1
  · (intro w hSw; (try dsimp only at hSw); go_simp; try with_reducible rfl)
  try simp only [Act.put, List.setIfInBounds_toArray, List.set_cons_zero, List.set_cons_succ]
  refine wpAnyH_take (i := 1) (v := ?_) (by simp only [List.getElem?_toArray, List.getElem?_cons_succ, List.getElem?_cons_zero]; rfl) (by kernel_rfl) (by kernel_rfl) (by kernel_rfl) (fun _ _ _ h => h) (Or.inl ⟨by rfl, ?_⟩) (by assumption) ?_
  rotate_left 1
  · (intro w hSw; (try dsimp only at hSw); go_simp; try with_reducible rfl)
  try simp only [Act.put, List.setIfInBounds_toArray, List.set_cons_zero, List.set_cons_succ]
  refine wpAnyH_take (i := 2) (v := ?_) (by simp only [List.getElem?_toArray, List.getElem?_cons_succ, List.getElem?_cons_zero]; rfl) (by kernel_rfl) (by kernel_rfl) (by kernel_rfl) (fun _ _ _ h => h) (Or.inl ⟨by rfl, ?_⟩) (by assumption) ?_
  rotate_left 1
  · (intro w hSw; (try dsimp only at hSw); go_simp; try with_reducible rfl)
  try simp only [Act.put, List.setIfInBounds_toArray, List.set_cons_zero, List.set_cons_succ]
  refine wpAnyH_take (i := 3) (v := ?_) (by simp only [List.getElem?_toArray, List.getElem?_cons_succ, List.getElem?_cons_zero]; rfl) (by kernel_rfl) (by kernel_rfl) (by kernel_rfl) (fun _ _ _ h => h) (Or.inl ⟨by rfl, ?_⟩) (by assumption) ?_
  rotate_left 1
  · (intro w hSw; (try dsimp only at hSw); go_simp; try with_reducible rfl)
  try simp only [Act.put, List.setIfInBounds_toArray, List.set_cons_zero, List.set_cons_succ]
  refine wpAnyH_take (i := 4) (v := ?_) (by simp only [List.getElem?_toArray, List.getElem?_cons_succ, List.getElem?_cons_zero]; rfl) (by kernel_rfl) (by kernel_rfl) (by kernel_rfl) (fun _ _ _ h => h) (Or.inl ⟨by rfl, ?_⟩) (by assumption) ?_
  rotate_left 1
  · (intro w hSw; (try dsimp only at hSw); go_simp; try with_reducible rfl)
  try simp only [Act.put, List.setIfInBounds_toArray, List.set_cons_zero, List.set_cons_succ]
  refine wpAnyH_take (i := 5) (v := ?_) (by simp only [List.getElem?_toArray, List.getElem?_cons_succ, List.getElem?_cons_zero]; rfl) (by kernel_rfl) (by kernel_rfl) (by kernel_rfl) (fun _ _ _ h => h) (Or.inl ⟨by rfl, ?_⟩) (by assumption) ?_
  rotate_left 1
  · (intro w hSw; (try dsimp only at hSw); go_simp; try with_reducible rfl)
  try simp only [Act.put, List.setIfInBounds_toArray, List.set_cons_zero, List.set_cons_succ]
  refine wpAnyH_ready (rs := [6]) (by kernel_rfl) (by simp) ?_
  refine AllReadyH.cons (by simp only [List.getElem?_toArray, List.getElem?_cons_succ, List.getElem?_cons_zero]; rfl) (fun K hK => ?_) ?_
  rotate_left 1
  · exact AllReadyH.nil
  go_simp
  refine hK.out _ _ ?_ (fun hHeld2 => ?_)
  · ((try dsimp only) <;> (obtain ⟨q0, q1, q2, q3, -⟩ := S5.out; exact ⟨q0, q1, q2, q3⟩))
  clear hHeld
  have hHeld := hHeld2
  clear hHeld2 hK K
  try simp only [Act.put, List.setIfInBounds_toArray, List.set_cons_zero, List.set_cons_succ]
  refine wpAnyH_take (i := 7) (v := ?_) (by simp only [List.getElem?_toArray, List.getElem?_cons_succ, List.getElem?_cons_zero]; rfl) (by kernel_rfl) (by kernel_rfl) (by kernel_rfl) (fun _ _ _ h => h) (Or.inl ⟨by rfl, ?_⟩) (by assumption) ?_
  rotate_left 1
  · (intro w hSw; (try dsimp only at hSw); go_simp; try with_reducible rfl)
  try simp only [Act.put, List.setIfInBounds_toArray, List.set_cons_zero, List.set_cons_succ]
  refine wpAnyH_done (by kernel_rfl) ?_ _
  refine NoPanic.normal ?_
  clear d0 d1 d2 d3 e0 e1 e2 e3 c0 c1 c2 c3 f0 f1 f2 f3 hHeld
  obtain ⟨d0, d1, d2, d3, -⟩ := blk4 Y5.out.2
  go_wp2_with fail
  refine bodyPost_ret (v := .tuple #[.pointer (some ⟨c, 0, none⟩), .agg #[.slice A' C.sure.length c', .slice none C.queue.length 0, .int .i64 (C.steps : Int), .int .i64 C.left], .bool true]) (by simp [results, Try.results22, go_sem, d0, d1, d2, d3]) rfl ?_
  exact ⟨c, C, A', c', none, 0, rfl, Y5.out.1.pj.drew, fun g t c hg => ⟨(Y5.out.1.drew.fr g t c hg).2.2, (Y5.out.1.drew.fr g t c hg).2.1⟩, (by rw [hC.out]; exact crashed_len2 hok.out _ _ _), (by rw [hC.out]; exact Nat.zero_le _), (by rw [hC.out]; exact Nat.zero_le _)⟩
end Go.Proofs.Ytpcaaobninnkaaa
