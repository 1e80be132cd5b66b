/- The walk over marlref17.Decode. -/
import Derived.Test.YtfaingklglelnaaPtRefW
import Derived.Test.YtfaingklglelnaaPtCntW
namespace Go.Proofs.Ytfaingklglelnaa
open Go.RowKit
attribute [local go_sem ↓] Go.wp_at_zero Go.wp_at_succ

theorem txt_size (l : List UInt8) : (txt l).size = l.length := by simp [txt, ByteArray.size]
theorem run_index_txt (l : List UInt8) (j : Nat) (k : Int) (hk : k = j) (hj : j < l.length) (w : World) : (Instr.index 9 (.string (txt l)) (.int .i64 k)).run Try.prog w = .ok (.int .u8 ((l.getD j 0).toNat : Int)) w := by
  subst hk
  have hs := txt_size l
  have hb : (txt l)[j]? = some (l.getD j 0) := by
    rw [List.getD_eq_getElem?_getD, List.getElem?_eq_getElem hj]
    show (if h : j < (txt l).size then some ((txt l)[j]'h) else none) = _
    rw [dif_pos (by rw [hs]; exact hj)]
    rfl
  simp [Instr.index, run_underlying Try.underlying9, asIntOf, hs, hb, hj]
  rfl
theorem fld2_getD {l : List UInt8} {i : Nat} (h : i + 1 < l.length) : fld l i 2 = (l.getD i 0).toNat + 256 * (l.getD (i + 1) 0).toNat := by
  rw [fld2_eq h, List.getD_eq_getElem?_getD, List.getD_eq_getElem?_getD, List.getElem?_eq_getElem h, List.getElem?_eq_getElem (by omega)]; rfl
theorem ret_rdec {K : Ending → World → Prop} {tmps : Array Value} {w : World} {g : Nat} {a b c d : Int} {v : Value} (hp : tmps.getD 2 undef = .pointer (some ⟨g, 0, none⟩)) (hq : tmps.getD 3 undef = v) (hB : Blk w g 30 (ptC a b c d))
    (hK : K (.returned (.tuple #[ptV a b c d, v])) w) : bodyPost Try.prog Try.f16 K .ret ⟨tmps, []⟩ w :=
  bodyPost_ret (results_ct rfl tmps w g _ _ (0, 0) _ hp hB Try.underlying30 rfl (by kernel_rfl)) rfl (by rw [hq]; exact hK)

set_option maxRecDepth 100000 in
set_option maxHeartbeats 4000000 in
theorem rdec17 (l : List UInt8) (w : World) (hl : l.length ≤ 1000000) :
    Calls Try.prog 16 #[.string (txt l)] w fun r w' => r = .returned (decV l) ∧ Below w.heap.size w w' := by
  have hs := txt_size l
  have K0 := hide (Blk.new w 30 #[.int .i64 0, .int .i64 0, .int .i64 0, .int .i64 0])
  have B0 := hide ((Below.refl w.heap.size w).alloc (Nat.le_refl _) (.cells #[.int .i64 0, .int .i64 0, .int .i64 0, .int .i64 0] 30))
  by_cases h64 : l.length = 64
  · have hn : (((txt l).size : Int) != 64) = false := by rw [hs, h64]; rfl
    have HL := hide h64
    have i0 := run_index_txt l 0 0 rfl (by omega)
    have i1 := run_index_txt l 1 1 rfl (by omega)
    have i2 := run_index_txt l 2 2 rfl (by omega)
    have i3 := run_index_txt l 3 3 rfl (by omega)
    have i5 := run_index_txt l 5 5 rfl (by omega)
    have i6 := run_index_txt l 6 6 rfl (by omega)
    have i7 := run_index_txt l 7 7 rfl (by omega)
    have i8 := run_index_txt l 8 8 rfl (by omega)
    have F0 := hide (fld2_getD (l := l) (i := 0) (by omega))
    have F2 := hide (fld2_getD (l := l) (i := 2) (by omega))
    have F5 := hide (fld2_getD (l := l) (i := 5) (by omega))
    have F7 := hide (fld2_getD (l := l) (i := 7) (by omega))
    clear hs hl h64
    simp only [Nat.zero_add, Nat.reduceAdd] at F0 F2 F5 F7
    generalize hx0 : (l.getD 0 0) = x0 at *
    generalize hx1 : (l.getD 1 0) = x1 at *
    generalize hx2 : (l.getD 2 0) = x2 at *
    generalize hx3 : (l.getD 3 0) = x3 at *
    generalize hx5 : (l.getD 5 0) = x5 at *
    generalize hx6 : (l.getD 6 0) = x6 at *
    generalize hx7 : (l.getD 7 0) = x7 at *
    generalize hx8 : (l.getD 8 0) = x8 at *
    clear hx0 hx1 hx2 hx3 hx5 hx6 hx7 hx8
    have y0 := x0.toNat_lt
    have y1 := x1.toNat_lt
    have y2 := x2.toNat_lt
    have y3 := x3.toNat_lt
    have y5 := x5.toNat_lt
    have y6 := x6.toNat_lt
    have y7 := x7.toNat_lt
    have y8 := x8.toNat_lt
    generalize x0.toNat = z0 at *
    generalize x1.toNat = z1 at *
    generalize x2.toNat = z2 at *
    generalize x3.toNat = z3 at *
    generalize x5.toNat = z5 at *
    generalize x6.toNat = z6 at *
    generalize x7.toNat = z7 at *
    generalize x8.toNat = z8 at *
    have s1 : IntKind.i64.wrap (256 * (z1 : Int)) = 256 * (z1 : Int) := by rw [IntKind.wrap_i64]; omega
    have t1 : IntKind.i64.wrap ((z0 : Int) + 256 * (z1 : Int)) = ((z0 + 256 * z1 : Nat) : Int) := by rw [IntKind.wrap_i64]; omega
    have s3 : IntKind.i64.wrap (256 * (z3 : Int)) = 256 * (z3 : Int) := by rw [IntKind.wrap_i64]; omega
    have t3 : IntKind.i64.wrap ((z2 : Int) + 256 * (z3 : Int)) = ((z2 + 256 * z3 : Nat) : Int) := by rw [IntKind.wrap_i64]; omega
    have s6 : IntKind.i64.wrap (256 * (z6 : Int)) = 256 * (z6 : Int) := by rw [IntKind.wrap_i64]; omega
    have t6 : IntKind.i64.wrap ((z5 : Int) + 256 * (z6 : Int)) = ((z5 + 256 * z6 : Nat) : Int) := by rw [IntKind.wrap_i64]; omega
    have s8 : IntKind.i64.wrap (256 * (z8 : Int)) = 256 * (z8 : Int) := by rw [IntKind.wrap_i64]; omega
    have t8 : IntKind.i64.wrap ((z7 : Int) + 256 * (z8 : Int)) = ((z7 + 256 * z8 : Nat) : Int) := by rw [IntKind.wrap_i64]; omega
    have c0 : IntKind.i64.wrap (z0 : Int) = z0 := by rw [IntKind.wrap_i64]; omega
    have c1 : IntKind.i64.wrap (z1 : Int) = z1 := by rw [IntKind.wrap_i64]; omega
    have c2 : IntKind.i64.wrap (z2 : Int) = z2 := by rw [IntKind.wrap_i64]; omega
    have c3 : IntKind.i64.wrap (z3 : Int) = z3 := by rw [IntKind.wrap_i64]; omega
    have c5 : IntKind.i64.wrap (z5 : Int) = z5 := by rw [IntKind.wrap_i64]; omega
    have c6 : IntKind.i64.wrap (z6 : Int) = z6 := by rw [IntKind.wrap_i64]; omega
    have c7 : IntKind.i64.wrap (z7 : Int) = z7 := by rw [IntKind.wrap_i64]; omega
    have c8 : IntKind.i64.wrap (z8 : Int) = z8 := by rw [IntKind.wrap_i64]; omega
    have HE : Hid (ptOf l = ⟨z0 + 256 * z1, z2 + 256 * z3, z5 + 256 * z6, z7 + 256 * z8⟩) := hide (by unfold ptOf; rw [F0.out, F2.out, F5.out, F7.out])
    clear F0 F2 F5 F7
    generalize z0 + 256 * z1 = pe at *
    generalize z2 + 256 * z3 = pc at *
    generalize z5 + 256 * z6 = pn at *
    generalize z7 + 256 * z8 = pf at *
    go_enter Try.func16, Try.ntmps16
    go_wp2_with fail
    generalize w.alloc (.cells #[.int .i64 0, .int .i64 0, .int .i64 0, .int .i64 0] 30) = w1 at *
    refine wp_region_noPanic ?_
    refine wp_region_held_drew (S := (fun _ => True)) (by kernel_rfl) ?_ (fun hHeld => ?_)
    · ((try dsimp only) <;> (first | trivial | assumption | go_keep))
    clear hHeld
    have hHeld : True := trivial
    refine wpAnyH_take (i := 0) (v := ?_) (by simp only [List.getElem?_toArray, List.getElem?_cons_succ, List.getElem?_cons_zero]; rfl) (by kernel_rfl) (by kernel_rfl) (by kernel_rfl) (fun _ _ _ h => h) (Or.inl ⟨by rfl, ?_⟩) (by assumption) ?_
    rotate_left 1
    · (intro w hSw; (try dsimp only at hSw); go_simp; try with_reducible rfl)
    try simp only [Act.put, List.setIfInBounds_toArray, List.set_cons_zero, List.set_cons_succ]
    refine wpAnyH_take (i := 1) (v := ?_) (by simp only [List.getElem?_toArray, List.getElem?_cons_succ, List.getElem?_cons_zero]; rfl) (by kernel_rfl) (by kernel_rfl) (by kernel_rfl) (fun _ _ _ h => h) (Or.inl ⟨by rfl, ?_⟩) (by assumption) ?_
    rotate_left 1
    · (intro w hSw; (try dsimp only at hSw); go_simp; try with_reducible rfl)
    try simp only [Act.put, List.setIfInBounds_toArray, List.set_cons_zero, List.set_cons_succ]
    refine wpAnyH_take (i := 2) (v := ?_) (by simp only [List.getElem?_toArray, List.getElem?_cons_succ, List.getElem?_cons_zero]; rfl) (by kernel_rfl) (by kernel_rfl) (by kernel_rfl) (fun _ _ _ h => h) (Or.inl ⟨by rfl, ?_⟩) (by assumption) ?_
    rotate_left 1
    · (intro w hSw; (try dsimp only at hSw); go_simp; try with_reducible rfl)
    try simp only [Act.put, List.setIfInBounds_toArray, List.set_cons_zero, List.set_cons_succ]
    refine wpAnyH_take (i := 3) (v := ?_) (by simp only [List.getElem?_toArray, List.getElem?_cons_succ, List.getElem?_cons_zero]; rfl) (by kernel_rfl) (by kernel_rfl) (by kernel_rfl) (fun _ _ _ h => h) (Or.inl ⟨by rfl, ?_⟩) (by assumption) ?_
    rotate_left 1
    · (intro w hSw; (try dsimp only at hSw); go_simp; try with_reducible rfl)
    try simp only [Act.put, List.setIfInBounds_toArray, List.set_cons_zero, List.set_cons_succ]
    refine wpAnyH_take (i := 4) (v := ?_) (by simp only [List.getElem?_toArray, List.getElem?_cons_succ, List.getElem?_cons_zero]; rfl) (by kernel_rfl) (by kernel_rfl) (by kernel_rfl) (fun _ _ _ h => h) (Or.inl ⟨by rfl, ?_⟩) (by assumption) ?_
    rotate_left 1
    · (intro w hSw; (try dsimp only at hSw); go_simp; try with_reducible rfl)
    try simp only [Act.put, List.setIfInBounds_toArray, List.set_cons_zero, List.set_cons_succ]
    refine wpAnyH_take (i := 5) (v := ?_) (by simp only [List.getElem?_toArray, List.getElem?_cons_succ, List.getElem?_cons_zero]; rfl) (by kernel_rfl) (by kernel_rfl) (by kernel_rfl) (fun _ _ _ h => h) (Or.inl ⟨by rfl, ?_⟩) (by assumption) ?_
    rotate_left 1
    · (intro w hSw; (try dsimp only at hSw); go_simp; try with_reducible rfl)
    try simp only [Act.put, List.setIfInBounds_toArray, List.set_cons_zero, List.set_cons_succ]
    refine wpAnyH_take (i := 6) (v := ?_) (by simp only [List.getElem?_toArray, List.getElem?_cons_succ, List.getElem?_cons_zero]; rfl) (by kernel_rfl) (by kernel_rfl) (by kernel_rfl) (fun _ _ _ h => h) (Or.inl ⟨by rfl, ?_⟩) (by assumption) ?_
    rotate_left 1
    · (intro w hSw; (try dsimp only at hSw); go_simp; try with_reducible rfl)
    try simp only [Act.put, List.setIfInBounds_toArray, List.set_cons_zero, List.set_cons_succ]
    refine wpAnyH_take (i := 7) (v := ?_) (by simp only [List.getElem?_toArray, List.getElem?_cons_succ, List.getElem?_cons_zero]; rfl) (by kernel_rfl) (by kernel_rfl) (by kernel_rfl) (fun _ _ _ h => h) (Or.inl ⟨by rfl, ?_⟩) (by assumption) ?_
    rotate_left 1
    · (intro w hSw; (try dsimp only at hSw); go_simp; try with_reducible rfl)
    try simp only [Act.put, List.setIfInBounds_toArray, List.set_cons_zero, List.set_cons_succ]
    refine wpAnyH_take (i := 8) (v := ?_) (by simp only [List.getElem?_toArray, List.getElem?_cons_succ, List.getElem?_cons_zero]; rfl) (by kernel_rfl) (by kernel_rfl) (by kernel_rfl) (fun _ _ _ h => h) (Or.inl ⟨by rfl, ?_⟩) (by assumption) ?_
    rotate_left 1
    · (intro w hSw; (try dsimp only at hSw); go_simp; try with_reducible rfl)
    try simp only [Act.put, List.setIfInBounds_toArray, List.set_cons_zero, List.set_cons_succ]
    refine wpAnyH_take (i := 9) (v := ?_) (by simp only [List.getElem?_toArray, List.getElem?_cons_succ, List.getElem?_cons_zero]; rfl) (by kernel_rfl) (by kernel_rfl) (by kernel_rfl) (fun _ _ _ h => h) (Or.inl ⟨by rfl, ?_⟩) (by assumption) ?_
    rotate_left 1
    · (intro w hSw; (try dsimp only at hSw); go_simp; try with_reducible rfl)
    try simp only [Act.put, List.setIfInBounds_toArray, List.set_cons_zero, List.set_cons_succ]
    refine wpAnyH_take (i := 10) (v := ?_) (by simp only [List.getElem?_toArray, List.getElem?_cons_succ, List.getElem?_cons_zero]; rfl) (by kernel_rfl) (by kernel_rfl) (by kernel_rfl) (fun _ _ _ h => h) (Or.inl ⟨by rfl, ?_⟩) (by assumption) ?_
    rotate_left 1
    · (intro w hSw; (try dsimp only at hSw); go_simp; try with_reducible rfl)
    try simp only [Act.put, List.setIfInBounds_toArray, List.set_cons_zero, List.set_cons_succ]
    refine wpAnyH_take (i := 11) (v := ?_) (by simp only [List.getElem?_toArray, List.getElem?_cons_succ, List.getElem?_cons_zero]; rfl) (by kernel_rfl) (by kernel_rfl) (by kernel_rfl) (fun _ _ _ h => h) (Or.inl ⟨by rfl, ?_⟩) (by assumption) ?_
    rotate_left 1
    · (intro w hSw; (try dsimp only at hSw); go_simp; try with_reducible rfl)
    try simp only [Act.put, List.setIfInBounds_toArray, List.set_cons_zero, List.set_cons_succ]
    refine wpAnyH_take (i := 12) (v := ?_) (by simp only [List.getElem?_toArray, List.getElem?_cons_succ, List.getElem?_cons_zero]; rfl) (by kernel_rfl) (by kernel_rfl) (by kernel_rfl) (fun _ _ _ h => h) (Or.inl ⟨by rfl, ?_⟩) (by assumption) ?_
    rotate_left 1
    · (intro w hSw; (try dsimp only at hSw); go_simp; try with_reducible rfl)
    try simp only [Act.put, List.setIfInBounds_toArray, List.set_cons_zero, List.set_cons_succ]
    refine wpAnyH_take (i := 13) (v := ?_) (by simp only [List.getElem?_toArray, List.getElem?_cons_succ, List.getElem?_cons_zero]; rfl) (by kernel_rfl) (by kernel_rfl) (by kernel_rfl) (fun _ _ _ h => h) (Or.inl ⟨by rfl, ?_⟩) (by assumption) ?_
    rotate_left 1
    · (intro w hSw; (try dsimp only at hSw); go_simp; try with_reducible rfl)
    try simp only [Act.put, List.setIfInBounds_toArray, List.set_cons_zero, List.set_cons_succ]
    refine wpAnyH_take (i := 14) (v := ?_) (by simp only [List.getElem?_toArray, List.getElem?_cons_succ, List.getElem?_cons_zero]; rfl) (by kernel_rfl) (by kernel_rfl) (by kernel_rfl) (fun _ _ _ h => h) (Or.inl ⟨by rfl, ?_⟩) (by assumption) ?_
    rotate_left 1
    · (intro w hSw; (try dsimp only at hSw); go_simp; try with_reducible rfl)
    try simp only [Act.put, List.setIfInBounds_toArray, List.set_cons_zero, List.set_cons_succ]
    refine wpAnyH_take (i := 15) (v := ?_) (by simp only [List.getElem?_toArray, List.getElem?_cons_succ, List.getElem?_cons_zero]; rfl) (by kernel_rfl) (by kernel_rfl) (by kernel_rfl) (fun _ _ _ h => h) (Or.inl ⟨by rfl, ?_⟩) (by assumption) ?_
    rotate_left 1
    · (intro w hSw; (try dsimp only at hSw); go_simp; try with_reducible rfl)
    try simp only [Act.put, List.setIfInBounds_toArray, List.set_cons_zero, List.set_cons_succ]
    refine wpAnyH_take (i := 16) (v := ?_) (by simp only [List.getElem?_toArray, List.getElem?_cons_succ, List.getElem?_cons_zero]; rfl) (by kernel_rfl) (by kernel_rfl) (by kernel_rfl) (fun _ _ _ h => h) (Or.inl ⟨by rfl, ?_⟩) (by assumption) ?_
    rotate_left 1
    · (intro w hSw; (try dsimp only at hSw); go_simp; try with_reducible rfl)
    try simp only [Act.put, List.setIfInBounds_toArray, List.set_cons_zero, List.set_cons_succ]
    refine wpAnyH_take (i := 17) (v := ?_) (by simp only [List.getElem?_toArray, List.getElem?_cons_succ, List.getElem?_cons_zero]; rfl) (by kernel_rfl) (by kernel_rfl) (by kernel_rfl) (fun _ _ _ h => h) (Or.inl ⟨by rfl, ?_⟩) (by assumption) ?_
    rotate_left 1
    · (intro w hSw; (try dsimp only at hSw); go_simp; try with_reducible rfl)
    try simp only [Act.put, List.setIfInBounds_toArray, List.set_cons_zero, List.set_cons_succ]
    refine wpAnyH_take (i := 18) (v := ?_) (by simp only [List.getElem?_toArray, List.getElem?_cons_succ, List.getElem?_cons_zero]; rfl) (by kernel_rfl) (by kernel_rfl) (by kernel_rfl) (fun _ _ _ h => h) (Or.inl ⟨by rfl, ?_⟩) (by assumption) ?_
    rotate_left 1
    · (intro w hSw; (try dsimp only at hSw); go_simp; try with_reducible rfl)
    try simp only [Act.put, List.setIfInBounds_toArray, List.set_cons_zero, List.set_cons_succ]
    refine wpAnyH_take (i := 19) (v := ?_) (by simp only [List.getElem?_toArray, List.getElem?_cons_succ, List.getElem?_cons_zero]; rfl) (by kernel_rfl) (by kernel_rfl) (by kernel_rfl) (fun _ _ _ h => h) (Or.inl ⟨by rfl, ?_⟩) (by assumption) ?_
    rotate_left 1
    · (intro w hSw; (try dsimp only at hSw); go_simp; try with_reducible rfl)
    try simp only [Act.put, List.setIfInBounds_toArray, List.set_cons_zero, List.set_cons_succ]
    refine wpAnyH_take (i := 20) (v := ?_) (by simp only [List.getElem?_toArray, List.getElem?_cons_succ, List.getElem?_cons_zero]; rfl) (by kernel_rfl) (by kernel_rfl) (by kernel_rfl) (fun _ _ _ h => h) (Or.inl ⟨by rfl, ?_⟩) (by assumption) ?_
    rotate_left 1
    · (intro w hSw; (try dsimp only at hSw); go_simp; try with_reducible rfl)
    try simp only [Act.put, List.setIfInBounds_toArray, List.set_cons_zero, List.set_cons_succ]
    refine wpAnyH_take (i := 21) (v := ?_) (by simp only [List.getElem?_toArray, List.getElem?_cons_succ, List.getElem?_cons_zero]; rfl) (by kernel_rfl) (by kernel_rfl) (by kernel_rfl) (fun _ _ _ h => h) (Or.inl ⟨by rfl, ?_⟩) (by assumption) ?_
    rotate_left 1
    · (intro w hSw; (try dsimp only at hSw); go_simp; try with_reducible rfl)
    try simp only [Act.put, List.setIfInBounds_toArray, List.set_cons_zero, List.set_cons_succ]
    refine wpAnyH_take (i := 22) (v := ?_) (by simp only [List.getElem?_toArray, List.getElem?_cons_succ, List.getElem?_cons_zero]; rfl) (by kernel_rfl) (by kernel_rfl) (by kernel_rfl) (fun _ _ _ h => h) (Or.inl ⟨by rfl, ?_⟩) (by assumption) ?_
    rotate_left 1
    · (intro w hSw; (try dsimp only at hSw); go_simp; try with_reducible rfl)
    try simp only [Act.put, List.setIfInBounds_toArray, List.set_cons_zero, List.set_cons_succ]
    refine wpAnyH_take (i := 23) (v := ?_) (by simp only [List.getElem?_toArray, List.getElem?_cons_succ, List.getElem?_cons_zero]; rfl) (by kernel_rfl) (by kernel_rfl) (by kernel_rfl) (fun _ _ _ h => h) (Or.inl ⟨by rfl, ?_⟩) (by assumption) ?_
    rotate_left 1
    · (intro w hSw; (try dsimp only at hSw); go_simp; try with_reducible rfl)
    try simp only [Act.put, List.setIfInBounds_toArray, List.set_cons_zero, List.set_cons_succ]
    refine wpAnyH_take (i := 24) (v := ?_) (by simp only [List.getElem?_toArray, List.getElem?_cons_succ, List.getElem?_cons_zero]; rfl) (by kernel_rfl) (by kernel_rfl) (by kernel_rfl) (fun _ _ _ h => h) (Or.inl ⟨by rfl, ?_⟩) (by assumption) ?_
    rotate_left 1
    · (intro w hSw; (try dsimp only at hSw); go_simp; try with_reducible rfl)
    try simp only [Act.put, List.setIfInBounds_toArray, List.set_cons_zero, List.set_cons_succ]
    refine wpAnyH_take (i := 25) (v := ?_) (by simp only [List.getElem?_toArray, List.getElem?_cons_succ, List.getElem?_cons_zero]; rfl) (by kernel_rfl) (by kernel_rfl) (by kernel_rfl) (fun _ _ _ h => h) (Or.inl ⟨by rfl, ?_⟩) (by assumption) ?_
    rotate_left 1
    · (intro w hSw; (try dsimp only at hSw); go_simp; try with_reducible rfl)
    try simp only [Act.put, List.setIfInBounds_toArray, List.set_cons_zero, List.set_cons_succ]
    refine wpAnyH_take (i := 26) (v := ?_) (by simp only [List.getElem?_toArray, List.getElem?_cons_succ, List.getElem?_cons_zero]; rfl) (by kernel_rfl) (by kernel_rfl) (by kernel_rfl) (fun _ _ _ h => h) (Or.inl ⟨by rfl, ?_⟩) (by assumption) ?_
    rotate_left 1
    · (intro w hSw; (try dsimp only at hSw); go_simp; try with_reducible rfl)
    try simp only [Act.put, List.setIfInBounds_toArray, List.set_cons_zero, List.set_cons_succ]
    refine wpAnyH_take (i := 27) (v := ?_) (by simp only [List.getElem?_toArray, List.getElem?_cons_succ, List.getElem?_cons_zero]; rfl) (by kernel_rfl) (by kernel_rfl) (by kernel_rfl) (fun _ _ _ h => h) (Or.inl ⟨by rfl, ?_⟩) (by assumption) ?_
    rotate_left 1
    · (intro w hSw; (try dsimp only at hSw); go_simp; try with_reducible rfl)
    try simp only [Act.put, List.setIfInBounds_toArray, List.set_cons_zero, List.set_cons_succ]
    refine wpAnyH_take (i := 28) (v := ?_) (by simp only [List.getElem?_toArray, List.getElem?_cons_succ, List.getElem?_cons_zero]; rfl) (by kernel_rfl) (by kernel_rfl) (by kernel_rfl) (fun _ _ _ h => h) (Or.inl ⟨by rfl, ?_⟩) (by assumption) ?_
    rotate_left 1
    · (intro w hSw; (try dsimp only at hSw); go_simp; try with_reducible rfl)
    try simp only [Act.put, List.setIfInBounds_toArray, List.set_cons_zero, List.set_cons_succ]
    refine wpAnyH_take (i := 29) (v := ?_) (by simp only [List.getElem?_toArray, List.getElem?_cons_succ, List.getElem?_cons_zero]; rfl) (by kernel_rfl) (by kernel_rfl) (by kernel_rfl) (fun _ _ _ h => h) (Or.inl ⟨by rfl, ?_⟩) (by assumption) ?_
    rotate_left 1
    · (intro w hSw; (try dsimp only at hSw); go_simp; try with_reducible rfl)
    try simp only [Act.put, List.setIfInBounds_toArray, List.set_cons_zero, List.set_cons_succ]
    refine wpAnyH_take (i := 30) (v := ?_) (by simp only [List.getElem?_toArray, List.getElem?_cons_succ, List.getElem?_cons_zero]; rfl) (by kernel_rfl) (by kernel_rfl) (by kernel_rfl) (fun _ _ _ h => h) (Or.inl ⟨by rfl, ?_⟩) (by assumption) ?_
    rotate_left 1
    · (intro w hSw; (try dsimp only at hSw); go_simp; try with_reducible rfl)
    try simp only [Act.put, List.setIfInBounds_toArray, List.set_cons_zero, List.set_cons_succ]
    refine wpAnyH_take (i := 31) (v := ?_) (by simp only [List.getElem?_toArray, List.getElem?_cons_succ, List.getElem?_cons_zero]; rfl) (by kernel_rfl) (by kernel_rfl) (by kernel_rfl) (fun _ _ _ h => h) (Or.inl ⟨by rfl, ?_⟩) (by assumption) ?_
    rotate_left 1
    · (intro w hSw; (try dsimp only at hSw); go_simp; try with_reducible rfl)
    try simp only [Act.put, List.setIfInBounds_toArray, List.set_cons_zero, List.set_cons_succ]
    refine wpAnyH_take (i := 32) (v := ?_) (by simp only [List.getElem?_toArray, List.getElem?_cons_succ, List.getElem?_cons_zero]; rfl) (by kernel_rfl) (by kernel_rfl) (by kernel_rfl) (fun _ _ _ h => h) (Or.inl ⟨by rfl, ?_⟩) (by assumption) ?_
    rotate_left 1
    · (intro w hSw; (try dsimp only at hSw); go_simp; try with_reducible rfl)
    try simp only [Act.put, List.setIfInBounds_toArray, List.set_cons_zero, List.set_cons_succ]
    refine wpAnyH_ready (rs := [33]) (by kernel_rfl) (by simp) ?_
    refine AllReadyH.cons (by simp only [List.getElem?_toArray, List.getElem?_cons_succ, List.getElem?_cons_zero]; rfl) (fun K hK => ?_) ?_
    rotate_left 1
    · exact AllReadyH.nil
    go_simp
    refine hK.out _ _ ?_ (fun hHeld2 => ?_)
    · ((try dsimp only) <;> (first | trivial | assumption | go_keep))
    clear hHeld
    have hHeld := hHeld2
    clear hHeld2 hK K
    try simp only [Act.put, List.setIfInBounds_toArray, List.set_cons_zero, List.set_cons_succ]
    refine wpAnyH_ready (rs := [34]) (by kernel_rfl) (by simp) ?_
    refine AllReadyH.cons (by simp only [List.getElem?_toArray, List.getElem?_cons_succ, List.getElem?_cons_zero]; rfl) (fun K hK => ?_) ?_
    rotate_left 1
    · exact AllReadyH.nil
    go_simp
    refine hK.out _ _ ?_ (fun hHeld2 => ?_)
    · ((try dsimp only) <;> (first | trivial | assumption | go_keep))
    clear hHeld
    have hHeld := hHeld2
    clear hHeld2 hK K
    try simp only [Act.put, List.setIfInBounds_toArray, List.set_cons_zero, List.set_cons_succ]
    refine wpAnyH_done (by kernel_rfl) ?_ _
    refine NoPanic.normal ?_
    try simp only [c0, c1, c2, c3, c5, c6, c7, c8, s1, s3, s6, s8, t1, t3, t6, t8]
    clear c0 c1 c2 c3 c5 c6 c7 c8 s1 s3 s6 s8 t1 t3 t6 t8 i0 i1 i2 i3 i5 i6 i7 i8 hHeld
    have K1 := hide ((K0.out.alloc (.cells (ptC pe pc pn pf) 30)).drew)
    have K2 := hide ((Blk.new w1 30 (ptC pe pc pn pf)).drew)
    have B2 := hide ((B0.out.alloc B0.out.size (.cells (ptC pe pc pn pf) 30)).drew)
    have hne : Hid (w.heap.size ≠ w1.heap.size) := hide (by have := K0.out.lt; omega)
    generalize (w1.alloc (.cells (ptC pe pc pn pf) 30)).drew = w2 at *
    generalize w1.heap.size = g2 at *
    obtain ⟨c0, c1, c2, c3⟩ := ptb4 K2.out
    go_wp2_with fail
    clear c0 c1 c2 c3
    refine (rgood_any pe pc pn pf w2).mono ?_
    rintro r w3 ⟨rfl, hb⟩
    replace K1 := hide (K1.out.below hb)
    replace K2 := hide (K2.out.below hb)
    replace B2 := hide (B2.out.trans (hb.mono B2.out.size))
    clear hb
    by_cases hP : PtP pe pc pn pf
    · have hd : decide (PtP pe pc pn pf) = true := decide_eq_true hP
      rw [hd]
      have HP := hide hP
      clear hP hd
      obtain ⟨c0, c1, c2, c3⟩ := ptb4 K2.out
      go_wp2_with fail
      clear c0 c1 c2 c3
      refine (renc17 pe pc pn pf w3 HP.out).mono ?_
      rintro r w4 ⟨rfl, hb⟩
      replace K1 := hide (K1.out.below hb)
      replace K2 := hide (K2.out.below hb)
      replace B2 := hide (B2.out.trans (hb.mono B2.out.size))
      clear hb
      obtain ⟨c0, c1, c2, c3⟩ := ptb4 K1.out
      obtain ⟨f0, f1, f2, f3⟩ := blk4f K1.out
      obtain ⟨d0, d1, d2, d3⟩ := ptb4 K2.out
      by_cases hQ : ptBytes pe pc pn pf = l
      · have HF := hide (show decP l = some ⟨pe, pc, pn, pf⟩ from by
          unfold decP
          rw [HE.out, if_pos ⟨HL.out, HP.out, hQ⟩])
        have ht := txt_eq l
        rw [hQ]
        clear hQ
        go_wp2_with fail
        exact ret_rdec rfl rfl (put4_blk K1.out) ⟨by rw [decV_some HF.out]; rfl, put4_bel B2.out (Nat.le_refl _)⟩
      · have HF := hide (show decP l = none from by
          unfold decP
          rw [HE.out]
          exact if_neg (by rintro ⟨-, -, h⟩; exact hQ h))
        have ht := txt_ne hQ
        clear hQ
        go_wp2_with fail
        exact ret_rdec rfl rfl (put4_blk K1.out) ⟨by rw [decV_none HF.out]; rfl, put4_bel B2.out (Nat.le_refl _)⟩
    · have hd : decide (PtP pe pc pn pf) = false := decide_eq_false hP
      have HF := hide (show decP l = none from by
          unfold decP
          rw [HE.out]
          exact if_neg (by rintro ⟨-, h, -⟩; exact hP h))
      rw [hd]
      clear hP hd
      obtain ⟨c0, c1, c2, c3⟩ := ptb4 K1.out
      obtain ⟨f0, f1, f2, f3⟩ := blk4f K1.out
      go_wp2_with fail
      exact ret_rdec rfl rfl (put4_blk K1.out) ⟨by rw [decV_none HF.out]; rfl, put4_bel B2.out (Nat.le_refl _)⟩
  · have hn : (((txt l).size : Int) != 64) = true := by rw [hs, bne_iff_ne]; omega
    have HF := hide (show decP l = none from if_neg (by rintro ⟨h, -⟩; exact h64 h))
    clear h64 hs
    go_enter Try.func16, Try.ntmps16
    go_wp2_with fail
    exact ret_rdec rfl rfl K0.out ⟨by rw [decV_none HF.out]; rfl, B0.out⟩
end Go.Proofs.Ytfaingklglelnaa
