/- The walk over Play: a write (raw, dead). -/
import Derived.Test.YtpcaaobninnkaaaPlV
namespace Go.Proofs.Ytpcaaobninnkaaa
open Go.RowKit
attribute [local go_sem ↓] Go.wp_at_zero Go.wp_at_succ

set_option maxHeartbeats 1000000 in
set_option maxRecDepth 100000 in
theorem play_wr_dead {w0 w : World} {d : Nat} {D : Dsk} {As : Option Addr} {cs : Nat} {Aq : Option Addr} {cq : Nat} (h : PJ w0 w d D As cs Aq cq D) (o : OpL) (hO : OpAt w0 w0.heap.size o) (hk : o.kind = 1) (hraw : o.raw = true) (hs : D.steps < 1000) (hq : D.queue.length < 1000) (i : Nat) (hi0 : o.n = (i : Int)) (hi : i < D.sure.length) (hl : D.left = 0) (h64 : o.bn = 64) :
    Calls Try.prog 22 #[.pointer (some ⟨d, 0, none⟩), .agg (refV As cs Aq cq D), .agg (opV o)] w (Played w0 w d D As Aq) := by
  have Y0 := hide (PY.start h (refV As cs Aq cq D) (opV o) (.slice none 0 0) (.slice none 0 0) (.int .i64 0) (.int .i64 0))
  have hb0 := hide h.ld.sz
  have hok := hide h.ld.ok
  have HO := hide hO
  have hlen64 : o.b.length = o.bn := hO.b.length
  have hreach := hide hO.bc
  have hbn : o.bn ≤ 140737488351232 := Nat.le_trans hO.bc.1 hO.bc.2
  have HI := hide hi
  have HQ := hide hq
  clear hO hi hq
  have HBY : Hid (By w0 w0.heap.size o.bA o.bn o.b) := hide HO.out.b
  rw [h64] at hlen64 HBY
  replace hlen64 := hide hlen64
  rw [refV_eq] at *
  unfold opV at *
  have HS := hide hs
  clear hs
  have HL := hide hl
  clear hl
  clear h
  generalize o.kind = kd at *
  subst hk
  generalize o.raw = rw at *
  subst hraw
  generalize o.n = nn at *
  subst hi0
  generalize o.bn = nb at *
  subst h64
  go_enter Try.func22, Try.ntmps22
  go_upto_region 2 with fail
  generalize hw1 : ((w.alloc _).alloc _).alloc _ = w1 at *
  clear hw1
  obtain ⟨c0, c1, c2, c3, -⟩ := blk4 Y0.out.k0
  have o0 := Y0.out.k1.cell 0
  have o3 := Y0.out.k1.cell 3
  have o4 := Y0.out.k1.cell 4
  obtain ⟨cv, hcv⟩ := cv_ex Try.prog 22 9
  have Y1 := hide (Y0.out)
  have BY1 : Hid (By w1 w0.heap.size o.bA 64 o.b) := hide (HBY.out.below Y1.out.pj.ld.bel)
  have hsz1 := hide Y1.out.sz
  clear c0 c1 c2 c3 o3 Y0
  have o3 := Y1.out.k1.cell 3
  have o1 := Y1.out.k1.cell 1
  go_wp2_with (
    at_builtin
    refine wpList_app _ rfl (.tmp 27) (.tmp 28) _ rfl etyB w1.heap.size (.slice (some ⟨w1.heap.size, 0, none⟩) 0 0) 0 [] rfl (own_made (Nat.le_refl _)) _ o.bA 64 o.bc (u8s o.b) rfl (BY1.out.keep (fun p hp => World.cell?_alloc_lt _ _ p (by have := Y1.out.pj.ld.sz; omega))) (u8s_one _) (by omega) (by simp) ?_
    intro A3 c3 w3 hown3 hg3 hat3
    simp only [Nat.zero_add, List.nil_append] at hown3 hat3
    have hB3 := bel_grow ((Below.refl w1.heap.size w1).alloc (Nat.le_refl _) (.cells #[] 5)) hg3 (fun k hk => by simp only [Value.ownBlock, Option.some.injEq] at hk; omega)
    obtain ⟨gi, hA3, hnc, hpw⟩ := PW.mk' (bA := o.bA) Y1.out hb0.out hsz1.out (Nat.le_refl _) hB3 hown3 (by rcases hat3 with h | h <;> rw [h] <;> simp [Value.ownBlock]) (.inl BY1.out)
    subst hA3
    have P3 := hide hpw
    have HNC := hide hnc
    clear hown3 hg3 hat3 hnc hpw hB3 Y1 o3 o1 o0 o4 BY1
    have o1 := P3.out.py.k1.cell 1)
  refine (ld_write_dead P3.out.py.pj.ld i (some ⟨gi, 0, none⟩) c3 HI.out HL.out).mono ?_
  rintro e w4 ⟨rfl, rfl⟩
  have P4 := hide P3.out
  clear P3 o1
  obtain ⟨m0, m1, m2, m3, f0, f1, f2, f3⟩ := blk4 P4.out.py.k0
  have o1 := P4.out.py.k1.cell 1
  have e1 := cvt' hcv (w := w3) o.bc P4.out.by'
  go_wp2_with fail
  have C := rput_dead As cs Aq cq D i o.b w3 HI.out hlen64.out HL.out P4.out.py.pj.ld.ok.n
  rw [refV_eq] at C
  refine C.mono ?_
  rintro e w5 ⟨rfl, hb⟩
  have P5 := hide (P4.out.below hb)
  clear C hb m0 m1 m2 m3 f0 f1 f2 f3 o1 e1 P4
  obtain ⟨c0, c1, c2, c4, f0, f1, f2, f3⟩ := blk4 P5.out.py.k0
  go_upto_region 10 with fail
  have P6 := hide (P5.out.set4 (.slice As D.sure.length cs) (.slice Aq D.queue.length cq) (.int .i64 (D.steps : Int)) (.int .i64 D.left))
  clear c0 c1 c2 c4 f0 f1 f2 f3 P5
  generalize ((((w5.setCell ⟨w.heap.size, 0, none⟩ (.slice As D.sure.length cs)).setCell ⟨w.heap.size, 1, none⟩ (.slice Aq D.queue.length cq)).setCell ⟨w.heap.size, 2, none⟩ (.int .i64 (D.steps : Int))).setCell ⟨w.heap.size, 3, none⟩ (.int .i64 D.left)) = w6 at *
  go_wp2_with fail
  go_loopw [46] (fun x wr => ∃ (j : Nat) (L : List UInt8), j ≤ 64 ∧ x = .int .i64 (j : Int) ∧ PW w0 wr (FrQ w0 w d D As Aq) w.heap.size d D #[.slice As D.sure.length cs, .slice Aq D.queue.length cq, .int .i64 (D.steps : Int), .int .i64 D.left] #[.int .i64 1, .int .i64 (i : Int), .int .i64 o.sectors, .slice o.bA 64 o.bc, .bool true, .slice o.kA o.kn o.kc] As cs Aq cq D gi 64 L o.bA o.b ∧ ∀ k, j ≤ k → L[k]? = o.b[k]?) (fun x _ => 64 - (intOf x).toNat)
  case atStart => exact ⟨0, o.b, Nat.zero_le _, rfl, P6.out, fun _ _ => rfl⟩
  case round =>
    obtain ⟨j, L, hj, rfl, h1, h2⟩ := hrel
    have H1 := hide h1
    have H2 := hide h2
    clear h1 h2 P6
    by_cases hlt : j < 64
    · obtain ⟨ad, x, hA, q1, q2, q3⟩ := H1.out.at hlt H2.out
      generalize o.bA = bA at *
      subst hA
      have hw := u8inc x
      have Pn := hide (H1.out.drew.put j (x + 1))
      have Ln := hide (set_tail (x + 1) H2.out)
      go_wp2_with fail
      refine wp_region_noPanic ?_
      refine wp_region_held_drew (S := (fun w' => w'.cell? (ad.add j) = some (.int .u8 (x.toNat : Int)) ∧ w'.cell? ⟨gi, j, none⟩ = some (.int .u8 (x.toNat : Int)))) (by kernel_rfl) ?_ (fun hHeld => ?_)
      · ((try dsimp only) <;> (first | trivial | assumption | go_keep))
      refine wpAnyH_take (i := 0) (v := ?_) (by simp only [List.getElem?_toArray, List.getElem?_cons_succ, List.getElem?_cons_zero]; rfl) (by kernel_rfl) (by kernel_rfl) (by kernel_rfl) (fun _ _ _ h => h) (Or.inl ⟨by rfl, ?_⟩) (by assumption) ?_
      rotate_left 1
      · (intro w hSw; (try dsimp only at hSw); go_simp; try with_reducible rfl)
      try simp only [Act.put, List.setIfInBounds_toArray, List.set_cons_zero, List.set_cons_succ]
      refine wpAnyH_take (i := 1) (v := ?_) (by simp only [List.getElem?_toArray, List.getElem?_cons_succ, List.getElem?_cons_zero]; rfl) (by kernel_rfl) (by kernel_rfl) (by kernel_rfl) (fun _ _ _ h => h) (Or.inl ⟨by rfl, ?_⟩) (by assumption) ?_
      rotate_left 1
      · (intro w hSw; (try dsimp only at hSw); go_simp; try with_reducible rfl)
      try simp only [Act.put, List.setIfInBounds_toArray, List.set_cons_zero, List.set_cons_succ]
      refine wpAnyH_take (i := 2) (v := ?_) (by simp only [List.getElem?_toArray, List.getElem?_cons_succ, List.getElem?_cons_zero]; rfl) (by kernel_rfl) (by kernel_rfl) (by kernel_rfl) (fun _ _ _ h => h) (Or.inl ⟨by rfl, ?_⟩) (by assumption) ?_
      rotate_left 1
      · (intro w hSw; (try dsimp only at hSw); go_simp; try with_reducible rfl)
      try simp only [Act.put, List.setIfInBounds_toArray, List.set_cons_zero, List.set_cons_succ]
      refine wpAnyH_take (i := 3) (v := ?_) (by simp only [List.getElem?_toArray, List.getElem?_cons_succ, List.getElem?_cons_zero]; rfl) (by kernel_rfl) (by kernel_rfl) (by kernel_rfl) (fun _ _ _ h => h) (Or.inl ⟨by rfl, ?_⟩) (by assumption) ?_
      rotate_left 1
      · (intro w hSw; (try dsimp only at hSw); go_simp; try with_reducible rfl)
      try simp only [Act.put, List.setIfInBounds_toArray, List.set_cons_zero, List.set_cons_succ]
      refine wpAnyH_take (i := 4) (v := ?_) (by simp only [List.getElem?_toArray, List.getElem?_cons_succ, List.getElem?_cons_zero]; rfl) (by kernel_rfl) (by kernel_rfl) (by kernel_rfl) (fun _ _ _ h => h) (Or.inl ⟨by rfl, ?_⟩) (by assumption) ?_
      rotate_left 1
      · (intro w hSw; (try dsimp only at hSw); go_simp; try with_reducible rfl)
      try simp only [Act.put, List.setIfInBounds_toArray, List.set_cons_zero, List.set_cons_succ]
      refine wpAnyH_take (i := 5) (v := ?_) (by simp only [List.getElem?_toArray, List.getElem?_cons_succ, List.getElem?_cons_zero]; rfl) (by kernel_rfl) (by kernel_rfl) (by kernel_rfl) (fun _ _ _ h => h) (Or.inl ⟨by rfl, ?_⟩) (by assumption) ?_
      rotate_left 1
      · (intro w hSw; (try dsimp only at hSw); go_simp; try with_reducible rfl)
      try simp only [Act.put, List.setIfInBounds_toArray, List.set_cons_zero, List.set_cons_succ]
      refine wpAnyH_take (i := 6) (v := ?_) (by simp only [List.getElem?_toArray, List.getElem?_cons_succ, List.getElem?_cons_zero]; rfl) (by kernel_rfl) (by kernel_rfl) (by kernel_rfl) (fun _ _ _ h => h) (Or.inl ⟨by rfl, ?_⟩) (by assumption) ?_
      rotate_left 1
      · (intro w hSw; (try dsimp only at hSw); go_simp; try with_reducible rfl)
      try simp only [Act.put, List.setIfInBounds_toArray, List.set_cons_zero, List.set_cons_succ]
      refine wpAnyH_take (i := 7) (v := ?_) (by simp only [List.getElem?_toArray, List.getElem?_cons_succ, List.getElem?_cons_zero]; rfl) (by kernel_rfl) (by kernel_rfl) (by kernel_rfl) (fun _ _ _ h => h) (Or.inl ⟨by rfl, ?_⟩) (by assumption) ?_
      rotate_left 1
      · (intro w hSw; (try dsimp only at hSw); go_simp; try with_reducible rfl)
      try simp only [Act.put, List.setIfInBounds_toArray, List.set_cons_zero, List.set_cons_succ]
      refine wpAnyH_take (i := 8) (v := ?_) (by simp only [List.getElem?_toArray, List.getElem?_cons_succ, List.getElem?_cons_zero]; rfl) (by kernel_rfl) (by kernel_rfl) (by kernel_rfl) (fun _ _ _ h => h) (Or.inl ⟨by rfl, ?_⟩) (by assumption) ?_
      rotate_left 1
      · (intro w hSw; (try dsimp only at hSw); go_simp; try with_reducible rfl)
      try simp only [Act.put, List.setIfInBounds_toArray, List.set_cons_zero, List.set_cons_succ]
      refine wpAnyH_done (by kernel_rfl) ?_ _
      refine NoPanic.normal ?_
      go_wp2_with fail
      go_roundw
      case rel => exact ⟨j + 1, L.set j (x + 1), by omega, by go_num, Pn.out, Ln.out⟩
      case measure => simp [intOf]; omega
    · clear H2
      have Y7 := hide H1.out.py
      clear H1
      go_upto_region 30 with fail
      have Y5 := hide (Y7.out.res hb0.out (.slice As D.sure.length cs) (.slice Aq D.queue.length cq) (.int .i64 (D.steps : Int)) (.int .i64 D.left))
      have S5 := hide (blk4 Y5.out.1.k0.drew)
      obtain ⟨c0, c1, c2, c3, f0, f1, f2, f3⟩ := blk4 Y7.out.k0
      obtain ⟨z0, z1, z2, z3, hz⟩ := Y7.out.k2
      obtain ⟨d0, d1, d2, d3, e0, e1, e2, e3⟩ := blk4 hz
      clear hz
      refine wp_region_noPanic ?_
      refine wp_region_held_drew (S := (fun w' => w'.cell? ⟨w.heap.size, 0, none⟩ = some (.slice As D.sure.length cs) ∧ w'.cell? ⟨w.heap.size, 1, none⟩ = some (.slice Aq D.queue.length cq) ∧ w'.cell? ⟨w.heap.size, 2, none⟩ = some (.int .i64 (D.steps : Int)) ∧ w'.cell? ⟨w.heap.size, 3, none⟩ = some (.int .i64 D.left))) (by kernel_rfl) ?_ (fun hHeld => ?_)
      · ((try dsimp only) <;> (first | trivial | assumption | go_keep))
      refine wpAnyH_take (i := 0) (v := ?_) (by simp only [List.getElem?_toArray, List.getElem?_cons_succ, List.getElem?_cons_zero]; rfl) (by kernel_rfl) (by kernel_rfl) (by kernel_rfl) (fun _ _ _ h => h) (Or.inl ⟨by rfl, ?_⟩) (by assumption) ?_
      rotate_left 1
      · (intro w hSw; (try dsimp only at hSw); go_simp; try with_reducible rfl)
      try simp only [Act.put, List.setIfInBounds_toArray, List.set_cons_zero, List.set_cons_succ]
      refine wpAnyH_take (i := 1) (v := ?_) (by simp only [List.getElem?_toArray, List.getElem?_cons_succ, List.getElem?_cons_zero]; rfl) (by kernel_rfl) (by kernel_rfl) (by kernel_rfl) (fun _ _ _ h => h) (Or.inl ⟨by rfl, ?_⟩) (by assumption) ?_
      rotate_left 1
      · (intro w hSw; (try dsimp only at hSw); go_simp; try with_reducible rfl)
      try simp only [Act.put, List.setIfInBounds_toArray, List.set_cons_zero, List.set_cons_succ]
      refine wpAnyH_take (i := 2) (v := ?_) (by simp only [List.getElem?_toArray, List.getElem?_cons_succ, List.getElem?_cons_zero]; rfl) (by kernel_rfl) (by kernel_rfl) (by kernel_rfl) (fun _ _ _ h => h) (Or.inl ⟨by rfl, ?_⟩) (by assumption) ?_
      rotate_left 1
      · (intro w hSw; (try dsimp only at hSw); go_simp; try with_reducible rfl)
      try simp only [Act.put, List.setIfInBounds_toArray, List.set_cons_zero, List.set_cons_succ]
      refine wpAnyH_take (i := 3) (v := ?_) (by simp only [List.getElem?_toArray, List.getElem?_cons_succ, List.getElem?_cons_zero]; rfl) (by kernel_rfl) (by kernel_rfl) (by kernel_rfl) (fun _ _ _ h => h) (Or.inl ⟨by rfl, ?_⟩) (by assumption) ?_
      rotate_left 1
      · (intro w hSw; (try dsimp only at hSw); go_simp; try with_reducible rfl)
      try simp only [Act.put, List.setIfInBounds_toArray, List.set_cons_zero, List.set_cons_succ]
      refine wpAnyH_take (i := 4) (v := ?_) (by simp only [List.getElem?_toArray, List.getElem?_cons_succ, List.getElem?_cons_zero]; rfl) (by kernel_rfl) (by kernel_rfl) (by kernel_rfl) (fun _ _ _ h => h) (Or.inl ⟨by rfl, ?_⟩) (by assumption) ?_
      rotate_left 1
      · (intro w hSw; (try dsimp only at hSw); go_simp; try with_reducible rfl)
      try simp only [Act.put, List.setIfInBounds_toArray, List.set_cons_zero, List.set_cons_succ]
      refine wpAnyH_take (i := 5) (v := ?_) (by simp only [List.getElem?_toArray, List.getElem?_cons_succ, List.getElem?_cons_zero]; rfl) (by kernel_rfl) (by kernel_rfl) (by kernel_rfl) (fun _ _ _ h => h) (Or.inl ⟨by rfl, ?_⟩) (by assumption) ?_
      rotate_left 1
      · (intro w hSw; (try dsimp only at hSw); go_simp; try with_reducible rfl)
      try simp only [Act.put, List.setIfInBounds_toArray, List.set_cons_zero, List.set_cons_succ]
      refine wpAnyH_ready (rs := [6]) (by kernel_rfl) (by simp) ?_
      refine AllReadyH.cons (by simp only [List.getElem?_toArray, List.getElem?_cons_succ, List.getElem?_cons_zero]; rfl) (fun K hK => ?_) ?_
      rotate_left 1
      · exact AllReadyH.nil
      go_simp
      refine hK.out _ _ ?_ (fun hHeld2 => ?_)
      · ((try dsimp only) <;> (obtain ⟨q0, q1, q2, q3, -⟩ := S5.out; exact ⟨q0, q1, q2, q3⟩))
      clear hHeld
      have hHeld := hHeld2
      clear hHeld2 hK K
      try simp only [Act.put, List.setIfInBounds_toArray, List.set_cons_zero, List.set_cons_succ]
      refine wpAnyH_take (i := 7) (v := ?_) (by simp only [List.getElem?_toArray, List.getElem?_cons_succ, List.getElem?_cons_zero]; rfl) (by kernel_rfl) (by kernel_rfl) (by kernel_rfl) (fun _ _ _ h => h) (Or.inl ⟨by rfl, ?_⟩) (by assumption) ?_
      rotate_left 1
      · (intro w hSw; (try dsimp only at hSw); go_simp; try with_reducible rfl)
      try simp only [Act.put, List.setIfInBounds_toArray, List.set_cons_zero, List.set_cons_succ]
      refine wpAnyH_done (by kernel_rfl) ?_ _
      refine NoPanic.normal ?_
      clear d0 d1 d2 d3 e0 e1 e2 e3 c0 c1 c2 c3 f0 f1 f2 f3 hHeld
      obtain ⟨d0, d1, d2, d3, -⟩ := blk4 Y5.out.2
      go_wp2_with fail
      refine bodyPost_ret (v := .tuple #[.pointer (some ⟨d, 0, none⟩), .agg #[.slice As D.sure.length cs, .slice Aq D.queue.length cq, .int .i64 (D.steps : Int), .int .i64 D.left], .bool true]) (by simp [results, Try.results22, go_sem, d0, d1, d2, d3]) rfl ?_
      exact ⟨d, D, As, cs, Aq, cq, rfl, Y5.out.1.pj.drew, fun g t c hg => ⟨(Y5.out.1.drew.fr g t c hg).2.2, (Y5.out.1.drew.fr g t c hg).2.1⟩, rfl, Nat.le_succ _, Nat.le_succ _⟩
end Go.Proofs.Ytpcaaobninnkaaa
