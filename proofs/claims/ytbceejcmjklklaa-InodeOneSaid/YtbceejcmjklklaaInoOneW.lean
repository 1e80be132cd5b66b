/- The walk of marllaw05.InodeOne. -/
import Derived.Test.YtbceejcmjklklaaInoAwakeW
import Derived.Test.YtbceejcmjklklaaEqDeep
import Derived.Test.YtbceejcmjklklaaConv
import Derived.Test.YtbceejcmjklklaaInoS
namespace Go.Proofs.Ytbceejcmjklklaa
open Go.RowKit

theorem blk14 {w : World} {g : Nat} {t : TypeId} {x0 x1 x2 x3 x4 x5 x6 x7 x8 x9 x10 x11 x12 x13 : Value} (h : Blk w g t #[x0, x1, x2, x3, x4, x5, x6, x7, x8, x9, x10, x11, x12, x13]) :
    w.cell? ⟨g, 0, none⟩ = some x0 ∧ w.cell? ⟨g, 1, none⟩ = some x1 ∧ w.cell? ⟨g, 2, none⟩ = some x2 ∧ w.cell? ⟨g, 3, none⟩ = some x3 ∧ w.cell? ⟨g, 4, none⟩ = some x4 ∧ w.cell? ⟨g, 5, none⟩ = some x5 ∧ w.cell? ⟨g, 6, none⟩ = some x6 ∧ w.cell? ⟨g, 7, none⟩ = some x7 ∧ w.cell? ⟨g, 8, none⟩ = some x8 ∧ w.cell? ⟨g, 9, none⟩ = some x9 ∧ w.cell? ⟨g, 10, none⟩ = some x10 ∧ w.cell? ⟨g, 11, none⟩ = some x11 ∧ w.cell? ⟨g, 12, none⟩ = some x12 ∧ w.cell? ⟨g, 13, none⟩ = some x13 := ⟨h.cell 0, h.cell 1, h.cell 2, h.cell 3, h.cell 4, h.cell 5, h.cell 6, h.cell 7, h.cell 8, h.cell 9, h.cell 10, h.cell 11, h.cell 12, h.cell 13⟩

set_option maxRecDepth 100000 in
set_option maxHeartbeats 4000000 in
theorem one_yes (a v k l s p0 p1 p2 p3 p4 p5 p6 p7 p8 a' v' k' l' s' q0 q1 q2 q3 q4 q5 q6 q7 q8 : Nat) (w : World) (h1 : InoP a v k l s) (h2 : InoP a' v' k' l' s') (i0 : p0 < 4294967296) (i1 : p1 < 4294967296) (i2 : p2 < 4294967296) (i3 : p3 < 4294967296) (i4 : p4 < 4294967296) (i5 : p5 < 4294967296) (i6 : p6 < 4294967296) (i7 : p7 < 4294967296) (i8 : p8 < 4294967296) (j0 : q0 < 4294967296) (j1 : q1 < 4294967296) (j2 : q2 < 4294967296) (j3 : q3 < 4294967296) (j4 : q4 < 4294967296) (j5 : q5 < 4294967296) (j6 : q6 < 4294967296) (j7 : q7 < 4294967296) (j8 : q8 < 4294967296)
    (r : Bool) (hr : ∀ w, (Op.equalIn 10000 28 (inoV a v k l s p0 p1 p2 p3 p4 p5 p6 p7 p8) (inoV a' v' k' l' s' q0 q1 q2 q3 q4 q5 q6 q7 q8)).run Try.prog w = .ok r w)
    (hs : ((txt (sealed (inoBytes a v k l s [p0, p1, p2, p3, p4, p5, p6, p7, p8]))).toList == (txt (sealed (inoBytes a' v' k' l' s' [q0, q1, q2, q3, q4, q5, q6, q7, q8]))).toList) = r) :
    Calls Try.prog 4 #[inoV a v k l s p0 p1 p2 p3 p4 p5 p6 p7 p8, inoV a' v' k' l' s' q0 q1 q2 q3 q4 q5 q6 q7 q8] w fun e w' => e = .returned (.bool true) ∧ Below w.heap.size w w' := by
  obtain ⟨cv, hcv⟩ := cv_ex Try.prog 29 9
  have HS := hide hs
  have C1 := hide (fun w => enc_yes a v k l s p0 p1 p2 p3 p4 p5 p6 p7 p8 w h1 i0 i1 i2 i3 i4 i5 i6 i7 i8)
  have C2 := hide (fun w => enc_yes a' v' k' l' s' q0 q1 q2 q3 q4 q5 q6 q7 q8 w h2 j0 j1 j2 j3 j4 j5 j6 j7 j8)
  clear hs h1 h2 i0 j0 i1 j1 i2 j2 i3 j3 i4 j4 i5 j5 i6 j6 i7 j7 i8 j8
  go_enter Try.func4, Try.ntmps4
  go_wp2_with fail
  have K1 := hide ((Blk.new w 28 #[.int .i64 (a : Int), .int .i64 (v : Int), .int .i64 (k : Int), .int .i64 (l : Int), .int .i64 (s : Int), .int .u32 (p0 : Int), .int .u32 (p1 : Int), .int .u32 (p2 : Int), .int .u32 (p3 : Int), .int .u32 (p4 : Int), .int .u32 (p5 : Int), .int .u32 (p6 : Int), .int .u32 (p7 : Int), .int .u32 (p8 : Int)]).alloc (.cells #[.int .i64 (a' : Int), .int .i64 (v' : Int), .int .i64 (k' : Int), .int .i64 (l' : Int), .int .i64 (s' : Int), .int .u32 (q0 : Int), .int .u32 (q1 : Int), .int .u32 (q2 : Int), .int .u32 (q3 : Int), .int .u32 (q4 : Int), .int .u32 (q5 : Int), .int .u32 (q6 : Int), .int .u32 (q7 : Int), .int .u32 (q8 : Int)] 28))
  have K2 := hide (Blk.new (w.alloc (.cells #[.int .i64 (a : Int), .int .i64 (v : Int), .int .i64 (k : Int), .int .i64 (l : Int), .int .i64 (s : Int), .int .u32 (p0 : Int), .int .u32 (p1 : Int), .int .u32 (p2 : Int), .int .u32 (p3 : Int), .int .u32 (p4 : Int), .int .u32 (p5 : Int), .int .u32 (p6 : Int), .int .u32 (p7 : Int), .int .u32 (p8 : Int)] 28)) 28 #[.int .i64 (a' : Int), .int .i64 (v' : Int), .int .i64 (k' : Int), .int .i64 (l' : Int), .int .i64 (s' : Int), .int .u32 (q0 : Int), .int .u32 (q1 : Int), .int .u32 (q2 : Int), .int .u32 (q3 : Int), .int .u32 (q4 : Int), .int .u32 (q5 : Int), .int .u32 (q6 : Int), .int .u32 (q7 : Int), .int .u32 (q8 : Int)])
  have Hb := hide (((Below.refl w.heap.size w).alloc (Nat.le_refl _) (.cells #[.int .i64 (a : Int), .int .i64 (v : Int), .int .i64 (k : Int), .int .i64 (l : Int), .int .i64 (s : Int), .int .u32 (p0 : Int), .int .u32 (p1 : Int), .int .u32 (p2 : Int), .int .u32 (p3 : Int), .int .u32 (p4 : Int), .int .u32 (p5 : Int), .int .u32 (p6 : Int), .int .u32 (p7 : Int), .int .u32 (p8 : Int)] 28)).alloc (by simp) (.cells #[.int .i64 (a' : Int), .int .i64 (v' : Int), .int .i64 (k' : Int), .int .i64 (l' : Int), .int .i64 (s' : Int), .int .u32 (q0 : Int), .int .u32 (q1 : Int), .int .u32 (q2 : Int), .int .u32 (q3 : Int), .int .u32 (q4 : Int), .int .u32 (q5 : Int), .int .u32 (q6 : Int), .int .u32 (q7 : Int), .int .u32 (q8 : Int)] 28))
  rw [World.size_alloc] at K2
  generalize (w.alloc (.cells #[.int .i64 (a : Int), .int .i64 (v : Int), .int .i64 (k : Int), .int .i64 (l : Int), .int .i64 (s : Int), .int .u32 (p0 : Int), .int .u32 (p1 : Int), .int .u32 (p2 : Int), .int .u32 (p3 : Int), .int .u32 (p4 : Int), .int .u32 (p5 : Int), .int .u32 (p6 : Int), .int .u32 (p7 : Int), .int .u32 (p8 : Int)] 28)).alloc (.cells #[.int .i64 (a' : Int), .int .i64 (v' : Int), .int .i64 (k' : Int), .int .i64 (l' : Int), .int .i64 (s' : Int), .int .u32 (q0 : Int), .int .u32 (q1 : Int), .int .u32 (q2 : Int), .int .u32 (q3 : Int), .int .u32 (q4 : Int), .int .u32 (q5 : Int), .int .u32 (q6 : Int), .int .u32 (q7 : Int), .int .u32 (q8 : Int)] 28) = w0 at *
  refine (C1.out w0).mono ?_
  rintro e w1 ⟨X, cx, rfl, hX, hb1⟩
  have HX := hide hX.by
  replace K1 := hide (K1.out.below hb1)
  replace K2 := hide (K2.out.below hb1)
  replace Hb := hide (Hb.out.trans (hb1.mono Hb.out.size))
  have g1 := blk14 K2.out
  clear hX hb1
  obtain ⟨g1, g2, g3, g4, g5, g6, g7, g8, g9, g10, g11, g12, g13, g14⟩ := g1
  go_wp2_with fail
  clear g1 g2 g3 g4 g5 g6 g7 g8 g9 g10 g11 g12 g13 g14
  refine (C2.out w1).mono ?_
  rintro e w2 ⟨Y, cy, rfl, hY, hb2⟩
  have HY := hide hY.by
  replace HX := hide (Sl.more (HX.out.below hb2) hb2.size)
  replace K1 := hide (K1.out.below hb2)
  replace K2 := hide (K2.out.below hb2)
  replace Hb := hide (Hb.out.trans (hb2.mono Hb.out.size))
  clear hY hb2 C1 C2
  go_wp2_with fail
  have HSS := hide (show ∀ w3, Below w2.heap.size w2 w3 → (w3.cell? ⟨w.heap.size, 0, none⟩ = some (.int .i64 (a : Int)) ∧ w3.cell? ⟨w.heap.size, 1, none⟩ = some (.int .i64 (v : Int)) ∧ w3.cell? ⟨w.heap.size, 2, none⟩ = some (.int .i64 (k : Int)) ∧ w3.cell? ⟨w.heap.size, 3, none⟩ = some (.int .i64 (l : Int)) ∧ w3.cell? ⟨w.heap.size, 4, none⟩ = some (.int .i64 (s : Int)) ∧ w3.cell? ⟨w.heap.size, 5, none⟩ = some (.int .u32 (p0 : Int)) ∧ w3.cell? ⟨w.heap.size, 6, none⟩ = some (.int .u32 (p1 : Int)) ∧ w3.cell? ⟨w.heap.size, 7, none⟩ = some (.int .u32 (p2 : Int)) ∧ w3.cell? ⟨w.heap.size, 8, none⟩ = some (.int .u32 (p3 : Int)) ∧ w3.cell? ⟨w.heap.size, 9, none⟩ = some (.int .u32 (p4 : Int)) ∧ w3.cell? ⟨w.heap.size, 10, none⟩ = some (.int .u32 (p5 : Int)) ∧ w3.cell? ⟨w.heap.size, 11, none⟩ = some (.int .u32 (p6 : Int)) ∧ w3.cell? ⟨w.heap.size, 12, none⟩ = some (.int .u32 (p7 : Int)) ∧ w3.cell? ⟨w.heap.size, 13, none⟩ = some (.int .u32 (p8 : Int))) ∧ (w3.cell? ⟨w.heap.size + 1, 0, none⟩ = some (.int .i64 (a' : Int)) ∧ w3.cell? ⟨w.heap.size + 1, 1, none⟩ = some (.int .i64 (v' : Int)) ∧ w3.cell? ⟨w.heap.size + 1, 2, none⟩ = some (.int .i64 (k' : Int)) ∧ w3.cell? ⟨w.heap.size + 1, 3, none⟩ = some (.int .i64 (l' : Int)) ∧ w3.cell? ⟨w.heap.size + 1, 4, none⟩ = some (.int .i64 (s' : Int)) ∧ w3.cell? ⟨w.heap.size + 1, 5, none⟩ = some (.int .u32 (q0 : Int)) ∧ w3.cell? ⟨w.heap.size + 1, 6, none⟩ = some (.int .u32 (q1 : Int)) ∧ w3.cell? ⟨w.heap.size + 1, 7, none⟩ = some (.int .u32 (q2 : Int)) ∧ w3.cell? ⟨w.heap.size + 1, 8, none⟩ = some (.int .u32 (q3 : Int)) ∧ w3.cell? ⟨w.heap.size + 1, 9, none⟩ = some (.int .u32 (q4 : Int)) ∧ w3.cell? ⟨w.heap.size + 1, 10, none⟩ = some (.int .u32 (q5 : Int)) ∧ w3.cell? ⟨w.heap.size + 1, 11, none⟩ = some (.int .u32 (q6 : Int)) ∧ w3.cell? ⟨w.heap.size + 1, 12, none⟩ = some (.int .u32 (q7 : Int)) ∧ w3.cell? ⟨w.heap.size + 1, 13, none⟩ = some (.int .u32 (q8 : Int))) ∧ cv (.slice X 64 cx) w3 = .ok (.string (txt (sealed (inoBytes a v k l s [p0, p1, p2, p3, p4, p5, p6, p7, p8])))) w3 ∧ cv (.slice Y 64 cy) w3 = .ok (.string (txt (sealed (inoBytes a' v' k' l' s' [q0, q1, q2, q3, q4, q5, q6, q7, q8])))) w3 from fun w3 hb3 => ⟨blk14 (K1.out.below hb3), blk14 (K2.out.below hb3), cv_txt hcv Try.underlying29 Try.underlying5 Try.underlying9 cx (HX.out.below hb3), cv_txt hcv Try.underlying29 Try.underlying5 Try.underlying9 cy (HY.out.below hb3)⟩)
  have hS0 := HSS.out w2.drew (Below.refl _ _).drew
  refine wp_region_noPanic ?_
  refine wp_region_held_drew (S := (fun w' => (w'.cell? ⟨w.heap.size, 0, none⟩ = some (.int .i64 (a : Int)) ∧ w'.cell? ⟨w.heap.size, 1, none⟩ = some (.int .i64 (v : Int)) ∧ w'.cell? ⟨w.heap.size, 2, none⟩ = some (.int .i64 (k : Int)) ∧ w'.cell? ⟨w.heap.size, 3, none⟩ = some (.int .i64 (l : Int)) ∧ w'.cell? ⟨w.heap.size, 4, none⟩ = some (.int .i64 (s : Int)) ∧ w'.cell? ⟨w.heap.size, 5, none⟩ = some (.int .u32 (p0 : Int)) ∧ w'.cell? ⟨w.heap.size, 6, none⟩ = some (.int .u32 (p1 : Int)) ∧ w'.cell? ⟨w.heap.size, 7, none⟩ = some (.int .u32 (p2 : Int)) ∧ w'.cell? ⟨w.heap.size, 8, none⟩ = some (.int .u32 (p3 : Int)) ∧ w'.cell? ⟨w.heap.size, 9, none⟩ = some (.int .u32 (p4 : Int)) ∧ w'.cell? ⟨w.heap.size, 10, none⟩ = some (.int .u32 (p5 : Int)) ∧ w'.cell? ⟨w.heap.size, 11, none⟩ = some (.int .u32 (p6 : Int)) ∧ w'.cell? ⟨w.heap.size, 12, none⟩ = some (.int .u32 (p7 : Int)) ∧ w'.cell? ⟨w.heap.size, 13, none⟩ = some (.int .u32 (p8 : Int))) ∧ (w'.cell? ⟨w.heap.size + 1, 0, none⟩ = some (.int .i64 (a' : Int)) ∧ w'.cell? ⟨w.heap.size + 1, 1, none⟩ = some (.int .i64 (v' : Int)) ∧ w'.cell? ⟨w.heap.size + 1, 2, none⟩ = some (.int .i64 (k' : Int)) ∧ w'.cell? ⟨w.heap.size + 1, 3, none⟩ = some (.int .i64 (l' : Int)) ∧ w'.cell? ⟨w.heap.size + 1, 4, none⟩ = some (.int .i64 (s' : Int)) ∧ w'.cell? ⟨w.heap.size + 1, 5, none⟩ = some (.int .u32 (q0 : Int)) ∧ w'.cell? ⟨w.heap.size + 1, 6, none⟩ = some (.int .u32 (q1 : Int)) ∧ w'.cell? ⟨w.heap.size + 1, 7, none⟩ = some (.int .u32 (q2 : Int)) ∧ w'.cell? ⟨w.heap.size + 1, 8, none⟩ = some (.int .u32 (q3 : Int)) ∧ w'.cell? ⟨w.heap.size + 1, 9, none⟩ = some (.int .u32 (q4 : Int)) ∧ w'.cell? ⟨w.heap.size + 1, 10, none⟩ = some (.int .u32 (q5 : Int)) ∧ w'.cell? ⟨w.heap.size + 1, 11, none⟩ = some (.int .u32 (q6 : Int)) ∧ w'.cell? ⟨w.heap.size + 1, 12, none⟩ = some (.int .u32 (q7 : Int)) ∧ w'.cell? ⟨w.heap.size + 1, 13, none⟩ = some (.int .u32 (q8 : Int))) ∧ cv (.slice X 64 cx) w' = .ok (.string (txt (sealed (inoBytes a v k l s [p0, p1, p2, p3, p4, p5, p6, p7, p8])))) w' ∧ cv (.slice Y 64 cy) w' = .ok (.string (txt (sealed (inoBytes a' v' k' l' s' [q0, q1, q2, q3, q4, q5, q6, q7, q8])))) w')) (by kernel_rfl) ?_ (fun hHeld => ?_)
  · ((try dsimp only) <;> (first | trivial | assumption | go_keep))
  refine wpAnyH_ready (rs := [0]) (by kernel_rfl) (by simp) ?_
  refine AllReadyH.cons (by simp only [List.getElem?_toArray, List.getElem?_cons_succ, List.getElem?_cons_zero]; rfl) (fun K hK => ?_) ?_
  rotate_left 1
  · exact AllReadyH.nil
  go_simp
  refine (awake_any _).mono ?_; rintro e w3 ⟨rfl, hb3⟩; have Hb3 := hide (Hb.out.trans (show Below w.heap.size w2 w3 from (Below.refl _ _).drew.trans (hb3.mono Hb.out.size))); have hS := HSS.out w3 ((Below.refl _ _).drew.trans hb3); clear hb3; go_wp2_with fail
  refine hK.out _ _ ?_ (fun hHeld2 => ?_)
  · ((try dsimp only) <;> (first | trivial | assumption | go_keep))
  clear hHeld
  have hHeld := hHeld2
  clear hHeld2 hK K
  try simp only [Act.put, List.setIfInBounds_toArray, List.set_cons_zero, List.set_cons_succ]
  refine wpAnyH_take (i := 1) (v := ?_) (by simp only [List.getElem?_toArray, List.getElem?_cons_succ, List.getElem?_cons_zero]; rfl) (by kernel_rfl) (by kernel_rfl) (by kernel_rfl) (fun _ _ _ h => h) (Or.inl ⟨by rfl, ?_⟩) (by assumption) ?_
  rotate_left 1
  · (intro w hSw; (try dsimp only at hSw); go_simp; try with_reducible rfl)
  try simp only [Act.put, List.setIfInBounds_toArray, List.set_cons_zero, List.set_cons_succ]
  refine wpAnyH_take (i := 2) (v := ?_) (by simp only [List.getElem?_toArray, List.getElem?_cons_succ, List.getElem?_cons_zero]; rfl) (by kernel_rfl) (by kernel_rfl) (by kernel_rfl) (fun _ _ _ h => h) (Or.inl ⟨by rfl, ?_⟩) (by assumption) ?_
  rotate_left 1
  · (intro w hSw; (try dsimp only at hSw); go_simp; try with_reducible rfl)
  try simp only [Act.put, List.setIfInBounds_toArray, List.set_cons_zero, List.set_cons_succ]
  refine wpAnyH_take (i := 3) (v := ?_) (by simp only [List.getElem?_toArray, List.getElem?_cons_succ, List.getElem?_cons_zero]; rfl) (by kernel_rfl) (by kernel_rfl) (by kernel_rfl) (fun _ _ _ h => h) (Or.inl ⟨by rfl, ?_⟩) (by assumption) ?_
  rotate_left 1
  · (intro w hSw; (try dsimp only at hSw); go_simp; try with_reducible rfl)
  try simp only [Act.put, List.setIfInBounds_toArray, List.set_cons_zero, List.set_cons_succ]
  refine wpAnyH_take (i := 4) (v := ?_) (by simp only [List.getElem?_toArray, List.getElem?_cons_succ, List.getElem?_cons_zero]; rfl) (by kernel_rfl) (by kernel_rfl) (by kernel_rfl) (fun _ _ _ h => h) (Or.inl ⟨by rfl, ?_⟩) (by assumption) ?_
  rotate_left 1
  · (intro w hSw; (try dsimp only at hSw); go_simp; try with_reducible rfl)
  try simp only [Act.put, List.setIfInBounds_toArray, List.set_cons_zero, List.set_cons_succ]
  refine wpAnyH_take (i := 5) (v := ?_) (by simp only [List.getElem?_toArray, List.getElem?_cons_succ, List.getElem?_cons_zero]; rfl) (by kernel_rfl) (by kernel_rfl) (by kernel_rfl) (fun _ _ _ h => h) (Or.inl ⟨by rfl, ?_⟩) (by assumption) ?_
  rotate_left 1
  · (intro w hSw; (try dsimp only at hSw); go_simp; try with_reducible rfl)
  try simp only [Act.put, List.setIfInBounds_toArray, List.set_cons_zero, List.set_cons_succ]
  refine wpAnyH_take (i := 6) (v := ?_) (by simp only [List.getElem?_toArray, List.getElem?_cons_succ, List.getElem?_cons_zero]; rfl) (by kernel_rfl) (by kernel_rfl) (by kernel_rfl) (fun _ _ _ h => h) (Or.inl ⟨by rfl, ?_⟩) (by assumption) ?_
  rotate_left 1
  · (intro w hSw; (try dsimp only at hSw); go_simp; try with_reducible rfl)
  try simp only [Act.put, List.setIfInBounds_toArray, List.set_cons_zero, List.set_cons_succ]
  refine wpAnyH_take (i := 7) (v := ?_) (by simp only [List.getElem?_toArray, List.getElem?_cons_succ, List.getElem?_cons_zero]; rfl) (by kernel_rfl) (by kernel_rfl) (by kernel_rfl) (fun _ _ _ h => h) (Or.inl ⟨by rfl, ?_⟩) (by assumption) ?_
  rotate_left 1
  · (intro w hSw; (try dsimp only at hSw); go_simp; try with_reducible rfl)
  try simp only [Act.put, List.setIfInBounds_toArray, List.set_cons_zero, List.set_cons_succ]
  refine wpAnyH_take (i := 8) (v := ?_) (by simp only [List.getElem?_toArray, List.getElem?_cons_succ, List.getElem?_cons_zero]; rfl) (by kernel_rfl) (by kernel_rfl) (by kernel_rfl) (fun _ _ _ h => h) (Or.inl ⟨by rfl, ?_⟩) (by assumption) ?_
  rotate_left 1
  · (intro w hSw; (try dsimp only at hSw); go_simp; try with_reducible rfl)
  try simp only [Act.put, List.setIfInBounds_toArray, List.set_cons_zero, List.set_cons_succ]
  refine wpAnyH_take (i := 9) (v := ?_) (by simp only [List.getElem?_toArray, List.getElem?_cons_succ, List.getElem?_cons_zero]; rfl) (by kernel_rfl) (by kernel_rfl) (by kernel_rfl) (fun _ _ _ h => h) (Or.inl ⟨by rfl, ?_⟩) (by assumption) ?_
  rotate_left 1
  · (intro w hSw; (try dsimp only at hSw); go_simp; try with_reducible rfl)
  try simp only [Act.put, List.setIfInBounds_toArray, List.set_cons_zero, List.set_cons_succ]
  refine wpAnyH_take (i := 10) (v := ?_) (by simp only [List.getElem?_toArray, List.getElem?_cons_succ, List.getElem?_cons_zero]; rfl) (by kernel_rfl) (by kernel_rfl) (by kernel_rfl) (fun _ _ _ h => h) (Or.inl ⟨by rfl, ?_⟩) (by assumption) ?_
  rotate_left 1
  · (intro w hSw; (try dsimp only at hSw); go_simp; try with_reducible rfl)
  try simp only [Act.put, List.setIfInBounds_toArray, List.set_cons_zero, List.set_cons_succ]
  refine wpAnyH_take (i := 11) (v := ?_) (by simp only [List.getElem?_toArray, List.getElem?_cons_succ, List.getElem?_cons_zero]; rfl) (by kernel_rfl) (by kernel_rfl) (by kernel_rfl) (fun _ _ _ h => h) (Or.inl ⟨by rfl, ?_⟩) (by assumption) ?_
  rotate_left 1
  · (intro w hSw; (try dsimp only at hSw); go_simp; try with_reducible rfl)
  try simp only [Act.put, List.setIfInBounds_toArray, List.set_cons_zero, List.set_cons_succ]
  refine wpAnyH_take (i := 12) (v := ?_) (by simp only [List.getElem?_toArray, List.getElem?_cons_succ, List.getElem?_cons_zero]; rfl) (by kernel_rfl) (by kernel_rfl) (by kernel_rfl) (fun _ _ _ h => h) (Or.inl ⟨by rfl, ?_⟩) (by assumption) ?_
  rotate_left 1
  · (intro w hSw; (try dsimp only at hSw); go_simp; try with_reducible rfl)
  try simp only [Act.put, List.setIfInBounds_toArray, List.set_cons_zero, List.set_cons_succ]
  refine wpAnyH_take (i := 13) (v := ?_) (by simp only [List.getElem?_toArray, List.getElem?_cons_succ, List.getElem?_cons_zero]; rfl) (by kernel_rfl) (by kernel_rfl) (by kernel_rfl) (fun _ _ _ h => h) (Or.inl ⟨by rfl, ?_⟩) (by assumption) ?_
  rotate_left 1
  · (intro w hSw; (try dsimp only at hSw); go_simp; try with_reducible rfl)
  try simp only [Act.put, List.setIfInBounds_toArray, List.set_cons_zero, List.set_cons_succ]
  refine wpAnyH_take (i := 14) (v := ?_) (by simp only [List.getElem?_toArray, List.getElem?_cons_succ, List.getElem?_cons_zero]; rfl) (by kernel_rfl) (by kernel_rfl) (by kernel_rfl) (fun _ _ _ h => h) (Or.inl ⟨by rfl, ?_⟩) (by assumption) ?_
  rotate_left 1
  · (intro w hSw; (try dsimp only at hSw); go_simp; try with_reducible rfl)
  try simp only [Act.put, List.setIfInBounds_toArray, List.set_cons_zero, List.set_cons_succ]
  refine wpAnyH_take (i := 15) (v := ?_) (by simp only [List.getElem?_toArray, List.getElem?_cons_succ, List.getElem?_cons_zero]; rfl) (by kernel_rfl) (by kernel_rfl) (by kernel_rfl) (fun _ _ _ h => h) (Or.inl ⟨by rfl, ?_⟩) (by assumption) ?_
  rotate_left 1
  · (intro w hSw; (try dsimp only at hSw); go_simp; try with_reducible rfl)
  try simp only [Act.put, List.setIfInBounds_toArray, List.set_cons_zero, List.set_cons_succ]
  refine wpAnyH_take (i := 16) (v := ?_) (by simp only [List.getElem?_toArray, List.getElem?_cons_succ, List.getElem?_cons_zero]; rfl) (by kernel_rfl) (by kernel_rfl) (by kernel_rfl) (fun _ _ _ h => h) (Or.inl ⟨by rfl, ?_⟩) (by assumption) ?_
  rotate_left 1
  · (intro w hSw; (try dsimp only at hSw); go_simp; try with_reducible rfl)
  try simp only [Act.put, List.setIfInBounds_toArray, List.set_cons_zero, List.set_cons_succ]
  refine wpAnyH_take (i := 17) (v := ?_) (by simp only [List.getElem?_toArray, List.getElem?_cons_succ, List.getElem?_cons_zero]; rfl) (by kernel_rfl) (by kernel_rfl) (by kernel_rfl) (fun _ _ _ h => h) (Or.inl ⟨by rfl, ?_⟩) (by assumption) ?_
  rotate_left 1
  · (intro w hSw; (try dsimp only at hSw); go_simp; try with_reducible rfl)
  try simp only [Act.put, List.setIfInBounds_toArray, List.set_cons_zero, List.set_cons_succ]
  refine wpAnyH_take (i := 18) (v := ?_) (by simp only [List.getElem?_toArray, List.getElem?_cons_succ, List.getElem?_cons_zero]; rfl) (by kernel_rfl) (by kernel_rfl) (by kernel_rfl) (fun _ _ _ h => h) (Or.inl ⟨by rfl, ?_⟩) (by assumption) ?_
  rotate_left 1
  · (intro w hSw; (try dsimp only at hSw); go_simp; try with_reducible rfl)
  try simp only [Act.put, List.setIfInBounds_toArray, List.set_cons_zero, List.set_cons_succ]
  refine wpAnyH_take (i := 19) (v := ?_) (by simp only [List.getElem?_toArray, List.getElem?_cons_succ, List.getElem?_cons_zero]; rfl) (by kernel_rfl) (by kernel_rfl) (by kernel_rfl) (fun _ _ _ h => h) (Or.inl ⟨by rfl, ?_⟩) (by assumption) ?_
  rotate_left 1
  · (intro w hSw; (try dsimp only at hSw); go_simp; try with_reducible rfl)
  try simp only [Act.put, List.setIfInBounds_toArray, List.set_cons_zero, List.set_cons_succ]
  refine wpAnyH_take (i := 20) (v := ?_) (by simp only [List.getElem?_toArray, List.getElem?_cons_succ, List.getElem?_cons_zero]; rfl) (by kernel_rfl) (by kernel_rfl) (by kernel_rfl) (fun _ _ _ h => h) (Or.inl ⟨by rfl, ?_⟩) (by assumption) ?_
  rotate_left 1
  · (intro w hSw; (try dsimp only at hSw); go_simp; try with_reducible rfl)
  try simp only [Act.put, List.setIfInBounds_toArray, List.set_cons_zero, List.set_cons_succ]
  refine wpAnyH_done (by kernel_rfl) ?_ _
  refine NoPanic.normal ?_
  all_goals
    go_wp2_with fail
    go_ret
    refine ⟨?_, Hb3.out⟩
    show Ending.returned (.bool (((txt (sealed (inoBytes a v k l s [p0, p1, p2, p3, p4, p5, p6, p7, p8]))).toList == (txt (sealed (inoBytes a' v' k' l' s' [q0, q1, q2, q3, q4, q5, q6, q7, q8]))).toList) == r)) = _
    rw [HS.out]
    simp

end Go.Proofs.Ytbceejcmjklklaa
