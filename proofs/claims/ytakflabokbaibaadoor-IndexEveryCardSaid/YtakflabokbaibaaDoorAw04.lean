/- The walk over marllaw04.awake: a fixed fact. -/
import Derived.Test.YtakflabokbaibaaDoorIr1W
set_option linter.unusedVariables false
set_option linter.unusedSimpArgs false
namespace Go.Proofs.YtakflabokbaibaaDoor
open Go.RowKit
attribute [local go_sem ↓] Go.wp_at_zero Go.wp_at_succ

theorem to40 : toP 40 = some ⟨7, [-23, -38], [1, 2]⟩ := by decide +kernel
theorem to278 : toP 278 = some ⟨8, [-280, -279, -278], [0, 0, 0]⟩ := by decide +kernel
theorem metas023 : metasN 0 23 = [-6, -23, -22] := by decide +kernel
theorem int_slice2 (w : World) (x y : Int) : (Instr.buildSlice 23 2 #[(0, .int .i64 x), (1, .int .i64 y)]).run Tryd.prog w = .ok (.slice (some ⟨w.heap.size, 0, none⟩) 2 2) (w.alloc (.cells (intC [x, y]).toArray 3)) := by
  have hz : (Tryd.prog.info? 3).map (fun i => (i.zero, i.size, i.bytes)) = some (some (.int .i64 0), 1, 8) := by kernel_rfl
  obtain ⟨ie, hi, h1, h2, h3⟩ := info_parts hz
  have hfill := Great.fill_whole (s := 1) (by omega) [Value.int .i64 x, Value.int .i64 y] ((Array.range (2 * ie.size)).map ((Value.int .i64 0).cells[· % (Value.int .i64 0).cells.size]!)) (fun v hv => by
    rcases List.mem_cons.1 hv with rfl | hv
    · simp [Value.cells]
    · rw [List.mem_singleton] at hv
      subst hv
      simp [Value.cells]) (by simp [h2])
  refine run_buildSlice w 23 3 2 _ #[.int .i64 x, .int .i64 y] ie _ Tryd.underlying23 hi h1 (by rw [h2]; omega) (by rw [h2]; omega) ?_
  rw [h2] at hfill ⊢
  simpa [Value.cells, intC] using hfill
theorem int_slice3 (w : World) (x y z : Int) : (Instr.buildSlice 23 3 #[(0, .int .i64 x), (1, .int .i64 y), (2, .int .i64 z)]).run Tryd.prog w = .ok (.slice (some ⟨w.heap.size, 0, none⟩) 3 3) (w.alloc (.cells (intC [x, y, z]).toArray 3)) := by
  have hz : (Tryd.prog.info? 3).map (fun i => (i.zero, i.size, i.bytes)) = some (some (.int .i64 0), 1, 8) := by kernel_rfl
  obtain ⟨ie, hi, h1, h2, h3⟩ := info_parts hz
  have hfill := Great.fill_whole (s := 1) (by omega) [Value.int .i64 x, Value.int .i64 y, Value.int .i64 z] ((Array.range (3 * ie.size)).map ((Value.int .i64 0).cells[· % (Value.int .i64 0).cells.size]!)) (fun v hv => by
    simp only [List.mem_cons, List.not_mem_nil, or_false] at hv
    rcases hv with rfl | rfl | rfl <;> simp [Value.cells]) (by simp [h2])
  refine run_buildSlice w 23 3 3 _ #[.int .i64 x, .int .i64 y, .int .i64 z] ie _ Tryd.underlying23 hi h1 (by rw [h2]; omega) (by rw [h2]; omega) ?_
  rw [h2] at hfill ⊢
  simpa [Value.cells, intC] using hfill
/-- A slice, and a list that the text writes out. -/
theorem ints_lit (w : World) (B : Nat) (A : Option Addr) (n c : Nat) (l m : List Int) (h : Sl w B A n (intC l)) (hB : B ≤ w.heap.size) (hn : n ≤ 1000000) (hm : m.length ≤ 1000000) :
    Calls Tryd.prog 13 #[.slice A n c, .slice (some ⟨w.heap.size, 0, none⟩) m.length m.length] (w.alloc (.cells (intC m).toArray 3)) fun e w' => e = .returned (.bool (decide (l = m))) ∧ Below w.heap.size w w' := by
  have hs : Below w.heap.size w (w.alloc (.cells (intC m).toArray 3)) := (Below.refl w.heap.size w).alloc (Nat.le_refl _) _
  refine (ints_any A _ n m.length c m.length B (w.heap.size + 1) l m _ (h.below (hs.mono hB)) (sl_lit w m) (by simp; omega) (by simp) hn hm).mono ?_
  rintro e w' ⟨rfl, hb⟩
  exact ⟨rfl, hs.trans (hb.mono (by simp))⟩
set_option maxHeartbeats 1000000 in
set_option maxRecDepth 100000 in
theorem awake04 (w : World) (sp : SpanAt w) : Calls Tryd.prog 10 #[] w fun e w' => e = .returned (.bool true) ∧ Below w.heap.size w w' := by
  have SP := hide sp
  clear sp
  go_enter Tryd.func10, Tryd.ntmps10
  go_wp2_with fail
  have C1 := to_any 40 ⟨by decide, by decide⟩ to40 w SP.out
  refine C1.mono ?_
  rintro e w1 ⟨A1, c1, A2, c2, rfl, hp, hb⟩
  have P1 := hide (hp.below ((Below.refl _ _).alloc (Nat.le_refl _) (.cells (pathA ⟨7, [-23, -38], [1, 2]⟩ A1 c1 A2 c2) 34)))
  have K1 := hide (Blk.new w1 34 (pathA ⟨7, [-23, -38], [1, 2]⟩ A1 c1 A2 c2))
  have B1 := hide (hb.alloc hb.size (.cells (pathA ⟨7, [-23, -38], [1, 2]⟩ A1 c1 A2 c2) 34))
  unfold pathA at *
  clear C1 hp hb
  go_wp2_with fail
  generalize hw2 : w1.alloc _ = w2 at *
  clear hw2
  have C2 := to_any 278 ⟨by decide, by decide⟩ to278 w2 (SP.out.bel B1.out)
  unfold pathA at C2
  refine C2.mono ?_
  rintro e w3 ⟨A3, c3, A4, c4, rfl, hp, hb⟩
  have hb4 := hb.alloc hb.size (.cells #[.int .i64 ((8 : Nat) : Int), .slice A3 3 c3, .slice A4 3 c4] 34)
  have P2 := hide (hp.below ((Below.refl _ _).alloc (Nat.le_refl _) (.cells #[.int .i64 ((8 : Nat) : Int), .slice A3 3 c3, .slice A4 3 c4] 34)))
  have K2 := hide (Blk.new w3 34 #[.int .i64 ((8 : Nat) : Int), .slice A3 3 c3, .slice A4 3 c4])
  have Q1 := hide (P1.out.below hb4)
  have J1 := hide (K1.out.below hb4)
  have B2 := hide (B1.out.trans (hb4.mono B1.out.size))
  clear C2 hp hb hb4 P1 K1 B1
  go_wp2_with fail
  generalize hw4 : w3.alloc _ = w4 at *
  clear hw4
  have C3 := metas_yes 0 23 (by omega) (by omega) w4 (SP.out.bel B2.out)
  rw [metas023] at C3
  refine C3.mono ?_
  rintro e w5 ⟨A5, n5, rfl, hn5, hb⟩
  have hl5 : n5 = 3 := hn5.1.symm
  subst hl5
  have R5 := hide hn5
  have P2' := hide (P2.out.below hb)
  have K2' := hide (K2.out.below hb)
  have Q1' := hide (Q1.out.below hb)
  have J1' := hide (J1.out.below hb)
  have B3 := hide (B2.out.trans (hb.mono B2.out.size))
  clear C3 hb P2 K2 Q1 J1 B2 hn5
  generalize w1.heap.size = p1 at *
  generalize w3.heap.size = p3 at *
  have c10 : w5.cell? ⟨p1, 0, none⟩ = some (.int .i64 7) := by rw [J1'.out.cell]; rfl
  have c11 : w5.cell? ⟨p1, 1, none⟩ = some (.slice A1 2 c1) := by rw [J1'.out.cell]; rfl
  have k2 := fun w (x y : Int) => int_slice2 w x y
  have k3 := fun w (x y z : Int) => int_slice3 w x y z
  go_wp2_with fail
  refine (ints_lit w5 _ A1 2 c1 [-23, -38] [-23, -38] (sl_of_ownI Q1'.out.m) (Nat.le_refl _) (by omega) (by simp)).mono ?_
  rintro e w6 ⟨rfl, hs6⟩
  have B6 := hide (B3.out.trans (hs6.mono B3.out.size))
  have c12 : w6.cell? ⟨p1, 2, none⟩ = some (.slice A2 2 c2) := by rw [(J1'.out.below hs6).cell]; rfl
  have Q6 := hide (Q1'.out.below hs6)
  have P6 := hide (P2'.out.below hs6)
  have K6 := hide (K2'.out.below hs6)
  have R6 := hide (R5.out.below hs6)
  clear hs6 B3 c10 c11 J1' Q1' P2' K2' R5
  go_wp2_with fail
  refine (ints_lit w6 _ A2 2 c2 [1, 2] [1, 2] (sl_of_ownI Q6.out.s) (Nat.le_refl _) (by omega) (by simp)).mono ?_
  rintro e w7 ⟨rfl, hs7⟩
  have B7 := hide (B6.out.trans (hs7.mono B6.out.size))
  have c31 : w7.cell? ⟨p3, 1, none⟩ = some (.slice A3 3 c3) := by rw [(K6.out.below hs7).cell]; rfl
  have P7 := hide (P6.out.below hs7)
  have R7 := hide (R6.out.below hs7)
  clear hs7 B6 c12 Q6 P6 K6 R6
  go_wp2_with fail
  refine (ints_lit w7 _ A3 3 c3 [-280, -279, -278] [-280, -279, -278] (sl_of_ownI P7.out.m) (Nat.le_refl _) (by omega) (by simp)).mono ?_
  rintro e w8 ⟨rfl, hs8⟩
  have B8 := hide (B7.out.trans (hs8.mono B7.out.size))
  have R8 := hide (R7.out.below hs8)
  clear hs8 B7 c31 P7 R7
  go_wp2_with fail
  refine (ints_lit w8 _ A5 3 3 [-6, -23, -22] [-6, -23, -22] (sl_of_nrow R8.out) (Nat.le_refl _) (by omega) (by simp)).mono ?_
  rintro e w9 ⟨rfl, hs9⟩
  have B9 := hide (B8.out.trans (hs9.mono B8.out.size))
  clear hs9 B8 R8
  go_wp2_with fail
  go_ret
  exact ⟨rfl, B9.out⟩
end Go.Proofs.YtakflabokbaibaaDoor
