import Derived.Test.YtfaingklglelnaaProg
import Derived.Test.YtfaingklglelnaaJn06
import Derived.Test.YtfaingklglelnaaJn07
import Derived.Deep.RegionWith
import Derived.Deep.DrawnRows
/- The walks over (Point).Check, cmp.Compare, cmp.Or, (Point).Newer, marlref17.Good, Newer, the law's ref (printed by gen_ptcheck.py). -/
namespace Go.Proofs.Ytfaingklglelnaa
open Go.RowKit
attribute [local go_sem ↓] Go.wp_at_zero Go.wp_at_succ

theorem ck_0 (e c n f : Int) (W : World) : (Instr.index 85 (.agg #[.int .i64 e, .int .i64 65536, .int .i64 c, .int .i64 65536, .int .i64 n, .int .i64 4096, .int .i64 f, .int .i64 4096]) (.int .i64 0)).run Try.prog W = .ok (.agg #[.int .i64 e, .int .i64 65536]) W := by kernel_rfl
theorem ck_1 (e c n f : Int) (W : World) : (Instr.index 85 (.agg #[.int .i64 e, .int .i64 65536, .int .i64 c, .int .i64 65536, .int .i64 n, .int .i64 4096, .int .i64 f, .int .i64 4096]) (.int .i64 1)).run Try.prog W = .ok (.agg #[.int .i64 c, .int .i64 65536]) W := by kernel_rfl
theorem ck_2 (e c n f : Int) (W : World) : (Instr.index 85 (.agg #[.int .i64 e, .int .i64 65536, .int .i64 c, .int .i64 65536, .int .i64 n, .int .i64 4096, .int .i64 f, .int .i64 4096]) (.int .i64 2)).run Try.prog W = .ok (.agg #[.int .i64 n, .int .i64 4096]) W := by kernel_rfl
theorem ck_3 (e c n f : Int) (W : World) : (Instr.index 85 (.agg #[.int .i64 e, .int .i64 65536, .int .i64 c, .int .i64 65536, .int .i64 n, .int .i64 4096, .int .i64 f, .int .i64 4096]) (.int .i64 3)).run Try.prog W = .ok (.agg #[.int .i64 f, .int .i64 4096]) W := by kernel_rfl
/-- The first ones are in range. -/
def ckOk (e c n f : Int) (j : Nat) : Prop := (0 < j → 0 ≤ e ∧ e < 65536) ∧ (1 < j → 0 ≤ c ∧ c < 65536) ∧ (2 < j → 0 ≤ n ∧ n < 4096) ∧ (3 < j → 0 ≤ f ∧ f < 4096)
/-- What Check answers. -/
def ckV (e c n f : Int) : Int := if PtP e c n f then 0 else 22
set_option maxHeartbeats 2000000 in
theorem check_any (e c n f : Int) (w : World) : Calls Try.prog 13 #[ptV e c n f] w fun r w' => r = .returned (.int .i64 (ckV e c n f)) ∧ Below w.heap.size w w' := by
  have k0 := ck_0 e c n f
  have k1 := ck_1 e c n f
  have k2 := ck_2 e c n f
  have k3 := ck_3 e c n f
  go_enter Try.func13, Try.ntmps13
  go_wp2_with fail
  have B0 := hide ((Below.refl w.heap.size w).alloc (Nat.le_refl _) (.cells #[.int .i64 e, .int .i64 c, .int .i64 n, .int .i64 f] 23))
  generalize w.alloc (.cells #[.int .i64 e, .int .i64 c, .int .i64 n, .int .i64 f] 23) = w0 at *
  go_loopw [18] (fun x wr => ∃ j : Nat, j ≤ 4 ∧ x = .int .i64 (j : Int) ∧ ckOk e c n f j ∧ Below w.heap.size w wr) (fun x _ => 4 - (intOf x).toNat)
  case atStart => exact ⟨0, by omega, rfl, by unfold ckOk; omega, B0.out⟩
  case round =>
    obtain ⟨j, hj, rfl, hok, hb⟩ := hrel
    have HO := hide hok
    have HB := hide hb
    clear hok hb
    have hcs : j = 0 ∨ j = 1 ∨ j = 2 ∨ j = 3 ∨ j = 4 := by omega
    rcases hcs with rfl | rfl | rfl | rfl | rfl
    · by_cases h1 : e < 0
      · have HN : Hid (ckV e c n f = 22) := hide (if_neg (fun h => by unfold PtP at h; omega))
        go_wp2_with fail
        go_ret
        exact ⟨by rw [HN.out]; rfl, HB.out.alloc HB.out.size _⟩
      · have h1d : decide (e < 0) = false := decide_eq_false h1
        by_cases h2 : 65536 ≤ e
        · have HN : Hid (ckV e c n f = 22) := hide (if_neg (fun h => by unfold PtP at h; omega))
          go_wp2_with fail
          go_ret
          exact ⟨by rw [HN.out]; rfl, HB.out.alloc HB.out.size _⟩
        · have HR : Hid (0 ≤ e ∧ e < 65536) := hide (by omega)
          go_wp2_with fail
          go_roundw
          case rel => exact ⟨1, by omega, by go_num, by have h3 := HO.out; have h4 := HR.out; unfold ckOk at h3 ⊢; omega, HB.out.alloc HB.out.size _⟩
          case measure => simp [intOf]
    · by_cases h1 : c < 0
      · have HN : Hid (ckV e c n f = 22) := hide (if_neg (fun h => by unfold PtP at h; omega))
        go_wp2_with fail
        go_ret
        exact ⟨by rw [HN.out]; rfl, HB.out.alloc HB.out.size _⟩
      · have h1d : decide (c < 0) = false := decide_eq_false h1
        by_cases h2 : 65536 ≤ c
        · have HN : Hid (ckV e c n f = 22) := hide (if_neg (fun h => by unfold PtP at h; omega))
          go_wp2_with fail
          go_ret
          exact ⟨by rw [HN.out]; rfl, HB.out.alloc HB.out.size _⟩
        · have HR : Hid (0 ≤ c ∧ c < 65536) := hide (by omega)
          go_wp2_with fail
          go_roundw
          case rel => exact ⟨2, by omega, by go_num, by have h3 := HO.out; have h4 := HR.out; unfold ckOk at h3 ⊢; omega, HB.out.alloc HB.out.size _⟩
          case measure => simp [intOf]
    · by_cases h1 : n < 0
      · have HN : Hid (ckV e c n f = 22) := hide (if_neg (fun h => by unfold PtP at h; omega))
        go_wp2_with fail
        go_ret
        exact ⟨by rw [HN.out]; rfl, HB.out.alloc HB.out.size _⟩
      · have h1d : decide (n < 0) = false := decide_eq_false h1
        by_cases h2 : 4096 ≤ n
        · have HN : Hid (ckV e c n f = 22) := hide (if_neg (fun h => by unfold PtP at h; omega))
          go_wp2_with fail
          go_ret
          exact ⟨by rw [HN.out]; rfl, HB.out.alloc HB.out.size _⟩
        · have HR : Hid (0 ≤ n ∧ n < 4096) := hide (by omega)
          go_wp2_with fail
          go_roundw
          case rel => exact ⟨3, by omega, by go_num, by have h3 := HO.out; have h4 := HR.out; unfold ckOk at h3 ⊢; omega, HB.out.alloc HB.out.size _⟩
          case measure => simp [intOf]
    · by_cases h1 : f < 0
      · have HN : Hid (ckV e c n f = 22) := hide (if_neg (fun h => by unfold PtP at h; omega))
        go_wp2_with fail
        go_ret
        exact ⟨by rw [HN.out]; rfl, HB.out.alloc HB.out.size _⟩
      · have h1d : decide (f < 0) = false := decide_eq_false h1
        by_cases h2 : 4096 ≤ f
        · have HN : Hid (ckV e c n f = 22) := hide (if_neg (fun h => by unfold PtP at h; omega))
          go_wp2_with fail
          go_ret
          exact ⟨by rw [HN.out]; rfl, HB.out.alloc HB.out.size _⟩
        · have HR : Hid (0 ≤ f ∧ f < 4096) := hide (by omega)
          go_wp2_with fail
          go_roundw
          case rel => exact ⟨4, by omega, by go_num, by have h3 := HO.out; have h4 := HR.out; unfold ckOk at h3 ⊢; omega, HB.out.alloc HB.out.size _⟩
          case measure => simp [intOf]
    · have HN : Hid (ckV e c n f = 0) := hide (if_pos (by have h3 := HO.out; unfold ckOk at h3; unfold PtP; omega))
      go_wp2_with fail
      go_ret
      exact ⟨by rw [HN.out]; rfl, HB.out⟩
/-- cmp.Compare of integers. -/
def cmpI (x y : Int) : Int := if x < y then -1 else if y < x then 1 else 0
theorem nan_any (x : Int) (w : World) : Calls Try.prog 54 #[.int .i64 x] w fun r w' => r = .returned (.bool false) ∧ w = w' := by
  have hx : (x == x) = true := beq_self_eq_true _
  go_enter Try.func54, Try.ntmps54
  go_wp2_with fail
  go_ret
  exact ⟨rfl, rfl⟩
theorem compare_any (x y : Int) (w : World) : Calls Try.prog 41 #[.int .i64 x, .int .i64 y] w fun r w' => r = .returned (.int .i64 (cmpI x y)) ∧ w = w' := by
  by_cases h1 : x < y
  · have HN : Hid (cmpI x y = -1) := hide (if_pos h1)
    go_enter Try.func41, Try.ntmps41
    go_wp2_with fail
    refine (nan_any _ _).mono ?_
    rintro e w1 ⟨rfl, rfl⟩
    go_wp2_with fail
    refine (nan_any _ _).mono ?_
    rintro e w1 ⟨rfl, rfl⟩
    go_wp2_with fail
    go_ret
    exact ⟨by rw [HN.out]; rfl, rfl⟩
  · have h1d : decide (x < y) = false := decide_eq_false h1
    by_cases h2 : y < x
    · have HN : Hid (cmpI x y = 1) := hide (by unfold cmpI; rw [if_neg h1, if_pos h2])
      go_enter Try.func41, Try.ntmps41
      go_wp2_with fail
      refine (nan_any _ _).mono ?_
      rintro e w1 ⟨rfl, rfl⟩
      go_wp2_with fail
      refine (nan_any _ _).mono ?_
      rintro e w1 ⟨rfl, rfl⟩
      go_wp2_with fail
      go_ret
      exact ⟨by rw [HN.out]; rfl, rfl⟩
    · have h2d : decide (y < x) = false := decide_eq_false h2
      have HN : Hid (cmpI x y = 0) := hide (by unfold cmpI; rw [if_neg h1, if_neg h2])
      go_enter Try.func41, Try.ntmps41
      go_wp2_with fail
      refine (nan_any _ _).mono ?_
      rintro e w1 ⟨rfl, rfl⟩
      go_wp2_with fail
      refine (nan_any _ _).mono ?_
      rintro e w1 ⟨rfl, rfl⟩
      go_wp2_with fail
      go_ret
      exact ⟨by rw [HN.out]; rfl, rfl⟩
/-- cmp.Or of two integers. -/
def orI (x y : Int) : Int := if x = 0 then y else x
theorem or_two (x y : Int) (g : Nat) (w : World) (h : Blk w g 3 #[.int .i64 x, .int .i64 y]) : Calls Try.prog 40 #[.slice (some ⟨g, 0, none⟩) 2 2] w fun r w' => r = .returned (.int .i64 (orI x y)) ∧ w = w' := by
  have c0 := h.cell 0
  have c1 := h.cell 1
  simp only [List.getElem?_toArray, List.getElem?_cons_succ, List.getElem?_cons_zero] at c0 c1
  go_enter Try.func40, Try.ntmps40
  go_wp2_with fail
  go_loop [8] (fun i => ∃ j : Nat, j ≤ 2 ∧ i = .int .i64 (j : Int) ∧ (0 < j → x = 0) ∧ (1 < j → y = 0)) (fun i => 2 - (intOf i).toNat)
  case atStart => exact ⟨0, by omega, rfl, by omega, by omega⟩
  case round =>
    obtain ⟨j, hj, rfl, hx, hy⟩ := hrel
    have hcs : j = 0 ∨ j = 1 ∨ j = 2 := by omega
    rcases hcs with rfl | rfl | rfl
    · clear hx hy
      by_cases h0 : x = 0
      · have h0d : (x == 0) = true := by rw [beq_iff_eq]; exact h0
        have HX := hide h0
        clear h0
        go_wp2_with fail
        go_round
        case rel => exact ⟨1, by omega, by go_num, fun _ => HX.out, by omega⟩
        case measure => simp [intOf]
      · have h0d : (x == 0) = false := by rw [beq_eq_false_iff_ne]; exact h0
        have HN : Hid (orI x y = x) := hide (if_neg h0)
        clear h0
        go_wp2_with fail
        go_ret
        exact ⟨by rw [HN.out]; rfl, rfl⟩
    · have HX := hide (hx (by omega))
      clear hx hy
      by_cases h0 : y = 0
      · have h0d : (y == 0) = true := by rw [beq_iff_eq]; exact h0
        have HY := hide h0
        clear h0
        go_wp2_with fail
        go_round
        case rel => exact ⟨2, by omega, by go_num, fun _ => HX.out, fun _ => HY.out⟩
        case measure => simp [intOf]
      · have h0d : (y == 0) = false := by rw [beq_eq_false_iff_ne]; exact h0
        have HN : Hid (orI x y = y) := hide (if_pos HX.out)
        clear h0
        go_wp2_with fail
        go_ret
        exact ⟨by rw [HN.out]; rfl, rfl⟩
    · have HN : Hid (orI x y = 0) := hide (by unfold orI; rw [if_pos (hx (by omega))]; exact hy (by omega))
      clear hx hy
      go_wp2_with fail
      go_ret
      exact ⟨by rw [HN.out]; rfl, rfl⟩
/-- Is the one newer than the other one? -/
def newP (e c e' c' : Int) : Bool := decide (e' < e ∨ (e = e' ∧ c' < c))
theorem newP_or (e c e' c' : Int) : decide (0 < orI (cmpI e e') (cmpI c c')) = newP e c e' c' := by
  unfold newP orI cmpI
  congr 1
  apply propext
  split <;> split <;> (try split) <;> (try split) <;> (try split) <;> omega
def IntF (z : Int) (v : Value) (_ : World) : Prop := v = .int .i64 z
theorem intF_ok (i d : Nat) (eat reads : List Nat) (base : Nat) (z : Int) : CO.Ok ⟨i, d, eat, reads, IntF z⟩ base :=
  ⟨fun _ _ _ _ h _ _ => h, fun v w h g hg => by rw [h] at hg; cases hg⟩
theorem int_slice2 (w : World) (x y : Int) : (Instr.buildSlice 56 2 #[(0, .int .i64 x), (1, .int .i64 y)]).run Try.prog w = .ok (.slice (some ⟨w.heap.size, 0, none⟩) 2 2) (w.alloc (.cells #[.int .i64 x, .int .i64 y] 3)) := by
  have hz : (Try.prog.info? 3).map (fun i => (i.zero, i.size, i.bytes)) = some (some (.int .i64 0), 1, 8) := by kernel_rfl
  obtain ⟨ie, hi, h1, h2, h3⟩ := info_parts hz
  have hfill := Great.fill_whole (s := 1) (by omega) [Value.int .i64 x, Value.int .i64 y] ((Array.range (2 * ie.size)).map ((Value.int .i64 0).cells[· % (Value.int .i64 0).cells.size]!)) (fun v hv => by
    simp only [List.mem_cons, List.not_mem_nil, or_false] at hv
    rcases hv with rfl | rfl <;> simp [Value.cells]) (by simp [h2])
  refine run_buildSlice w 56 3 2 _ #[.int .i64 x, .int .i64 y] ie _ Try.underlying56 hi h1 (by rw [h2]; omega) (by rw [h2]; omega) ?_
  rw [h2] at hfill ⊢
  simpa [Value.cells] using hfill
set_option maxHeartbeats 1000000 in
set_option maxRecDepth 100000 in
theorem newer_any (e c n f e' c' n' f' : Int) (w : World) : Calls Try.prog 17 #[ptV e c n f, ptV e' c' n' f'] w fun r w' => r = .returned (.bool (newP e c e' c')) ∧ Below w.heap.size w w' := by
  have HNP := hide (newP_or e c e' c')
  go_enter Try.func17, Try.ntmps17
  go_wp2_with fail
  have K1 := hide ((Blk.new w 23 #[.int .i64 e, .int .i64 c, .int .i64 n, .int .i64 f]).alloc (.cells #[.int .i64 e', .int .i64 c', .int .i64 n', .int .i64 f'] 23))
  have K2 := Blk.new (w.alloc (.cells #[.int .i64 e, .int .i64 c, .int .i64 n, .int .i64 f] 23)) 23 #[.int .i64 e', .int .i64 c', .int .i64 n', .int .i64 f']
  rw [World.size_alloc] at K2
  have K2 := hide K2
  have B1 := hide (((Below.refl w.heap.size w).alloc (Nat.le_refl _) (.cells #[.int .i64 e, .int .i64 c, .int .i64 n, .int .i64 f] 23)).alloc (by simp) (.cells #[.int .i64 e', .int .i64 c', .int .i64 n', .int .i64 f'] 23))
  generalize (w.alloc (.cells #[.int .i64 e, .int .i64 c, .int .i64 n, .int .i64 f] 23)).alloc (.cells #[.int .i64 e', .int .i64 c', .int .i64 n', .int .i64 f'] 23) = w1 at *
  have cC : ∀ w' : World, Below w1.heap.size w1 w' → w'.cell? ⟨w.heap.size, 0, none⟩ = some (.int .i64 e) ∧ w'.cell? ⟨w.heap.size, 1, none⟩ = some (.int .i64 c) ∧ w'.cell? ⟨w.heap.size + 1, 0, none⟩ = some (.int .i64 e') ∧ w'.cell? ⟨w.heap.size + 1, 1, none⟩ = some (.int .i64 c') := fun w' hb =>
    ⟨(K1.out.below hb).cell 0, (K1.out.below hb).cell 1, (K2.out.below hb).cell 0, (K2.out.below hb).cell 1⟩
  have s0 := cC _ (Below.refl _ _).drew
  have CC := hide cC
  clear cC
  refine wp_region_noPanic ?_
  refine wp_region_held_drew (S := (fun w' => w'.cell? ⟨w.heap.size, 0, none⟩ = some (.int .i64 e) ∧ w'.cell? ⟨w.heap.size, 1, none⟩ = some (.int .i64 c) ∧ w'.cell? ⟨w.heap.size + 1, 0, none⟩ = some (.int .i64 e') ∧ w'.cell? ⟨w.heap.size + 1, 1, none⟩ = some (.int .i64 c'))) (by kernel_rfl) ?_ (fun hHeld => ?_)
  · ((try dsimp only) <;> (first | trivial | assumption | go_keep))
  clear s0
  have BW := hide ((Below.refl w1.heap.size w1).drew)
  have ws : Hid (w1.heap.size ≤ w1.drew.heap.size) := hide (Nat.le_refl _)
  generalize w1.drew = w2 at *
  refine wpAnyH_take (i := 0) (v := ?_) (by simp only [List.getElem?_toArray, List.getElem?_cons_succ, List.getElem?_cons_zero]; rfl) (by kernel_rfl) (by kernel_rfl) (by kernel_rfl) (fun _ _ _ h => h) (Or.inl ⟨by rfl, ?_⟩) (by assumption) ?_
  rotate_left 1
  · (intro w hSw; (try dsimp only at hSw); go_simp; try with_reducible rfl)
  try simp only [Act.put, List.setIfInBounds_toArray, List.set_cons_zero, List.set_cons_succ]
  refine wpAnyH_take (i := 1) (v := ?_) (by simp only [List.getElem?_toArray, List.getElem?_cons_succ, List.getElem?_cons_zero]; rfl) (by kernel_rfl) (by kernel_rfl) (by kernel_rfl) (fun _ _ _ h => h) (Or.inl ⟨by rfl, ?_⟩) (by assumption) ?_
  rotate_left 1
  · (intro w hSw; (try dsimp only at hSw); go_simp; try with_reducible rfl)
  try simp only [Act.put, List.setIfInBounds_toArray, List.set_cons_zero, List.set_cons_succ]
  refine wpAnyH_take (i := 2) (v := ?_) (by simp only [List.getElem?_toArray, List.getElem?_cons_succ, List.getElem?_cons_zero]; rfl) (by kernel_rfl) (by kernel_rfl) (by kernel_rfl) (fun _ _ _ h => h) (Or.inl ⟨by rfl, ?_⟩) (by assumption) ?_
  rotate_left 1
  · (intro w hSw; (try dsimp only at hSw); go_simp; try with_reducible rfl)
  try simp only [Act.put, List.setIfInBounds_toArray, List.set_cons_zero, List.set_cons_succ]
  refine wpAnyH_take (i := 3) (v := ?_) (by simp only [List.getElem?_toArray, List.getElem?_cons_succ, List.getElem?_cons_zero]; rfl) (by kernel_rfl) (by kernel_rfl) (by kernel_rfl) (fun _ _ _ h => h) (Or.inl ⟨by rfl, ?_⟩) (by assumption) ?_
  rotate_left 1
  · (intro w hSw; (try dsimp only at hSw); go_simp; try with_reducible rfl)
  try simp only [Act.put, List.setIfInBounds_toArray, List.set_cons_zero, List.set_cons_succ]
  refine wpAnyH_take (i := 5) (v := ?_) (by simp only [List.getElem?_toArray, List.getElem?_cons_succ, List.getElem?_cons_zero]; rfl) (by kernel_rfl) (by kernel_rfl) (by kernel_rfl) (fun _ _ _ h => h) (Or.inl ⟨by rfl, ?_⟩) (by assumption) ?_
  rotate_left 1
  · (intro w hSw; (try dsimp only at hSw); go_simp; try with_reducible rfl)
  try simp only [Act.put, List.setIfInBounds_toArray, List.set_cons_zero, List.set_cons_succ]
  refine wpAnyH_take (i := 6) (v := ?_) (by simp only [List.getElem?_toArray, List.getElem?_cons_succ, List.getElem?_cons_zero]; rfl) (by kernel_rfl) (by kernel_rfl) (by kernel_rfl) (fun _ _ _ h => h) (Or.inl ⟨by rfl, ?_⟩) (by assumption) ?_
  rotate_left 1
  · (intro w hSw; (try dsimp only at hSw); go_simp; try with_reducible rfl)
  try simp only [Act.put, List.setIfInBounds_toArray, List.set_cons_zero, List.set_cons_succ]
  refine wpAnyH_take (i := 7) (v := ?_) (by simp only [List.getElem?_toArray, List.getElem?_cons_succ, List.getElem?_cons_zero]; rfl) (by kernel_rfl) (by kernel_rfl) (by kernel_rfl) (fun _ _ _ h => h) (Or.inl ⟨by rfl, ?_⟩) (by assumption) ?_
  rotate_left 1
  · (intro w hSw; (try dsimp only at hSw); go_simp; try with_reducible rfl)
  try simp only [Act.put, List.setIfInBounds_toArray, List.set_cons_zero, List.set_cons_succ]
  refine wpAnyH_take (i := 8) (v := ?_) (by simp only [List.getElem?_toArray, List.getElem?_cons_succ, List.getElem?_cons_zero]; rfl) (by kernel_rfl) (by kernel_rfl) (by kernel_rfl) (fun _ _ _ h => h) (Or.inl ⟨by rfl, ?_⟩) (by assumption) ?_
  rotate_left 1
  · (intro w hSw; (try dsimp only at hSw); go_simp; try with_reducible rfl)
  try simp only [Act.put, List.setIfInBounds_toArray, List.set_cons_zero, List.set_cons_succ]
  refine region_rows (fuel := 4) (w0 := w2) (base := w2.heap.size) (stop := 10) (C := [⟨4, 9, [], [], IntF (cmpI e e')⟩, ⟨9, 14, [], [], IntF (cmpI c c')⟩])
    (ok_of_cd (by kernel_rfl)) ?hok ?hst ?hS (Below.refl _ _) (Nat.le_refl _) ?hend
  case hok =>
    intro y hy
    simp only [List.mem_cons, List.not_mem_nil, or_false] at hy
    rcases hy with rfl | rfl
    · exact intF_ok _ _ _ _ _ _
    · exact intF_ok _ _ _ _ _ _
  case hS =>
    intro w' hb _
    exact CC.out w' (BW.out.trans (hb.mono ws.out))
  case hst =>
    intro y hy
    simp only [List.mem_cons, List.not_mem_nil, or_false] at hy
    rcases hy with rfl | rfl
    · exact CO.step_call (by simp only [List.getElem?_toArray, List.getElem?_cons_succ, List.getElem?_cons_zero]; rfl) (want_none (by rfl)) (by rfl) Try.func41 (by kernel_rfl) (by rfl) #[.tmp 6, .tmp 8] _ (by rfl) (fun a w' e1 e2 e3 e4 => by
        have v1 : a.tmps.getD 6 undef = .int .i64 e := (e3 6 (by intro z hz; simp only [List.mem_cons, List.not_mem_nil, or_false] at hz; rcases hz with rfl | rfl <;> simp)).trans (by rfl)
        have v2 : a.tmps.getD 8 undef = .int .i64 e' := (e3 8 (by intro z hz; simp only [List.mem_cons, List.not_mem_nil, or_false] at hz; rcases hz with rfl | rfl <;> simp)).trans (by rfl)
        simp only [List.map_toArray, List.map_cons, List.map_nil, Act.eval, v1, v2]
        refine (compare_any e e' w').mono ?_
        rintro r w3 ⟨rfl, rfl⟩
        exact ⟨_, rfl, rfl, Below.refl _ _, fun g hg => by cases hg⟩)
    · exact CO.step_call (by simp only [List.getElem?_toArray, List.getElem?_cons_succ, List.getElem?_cons_zero]; rfl) (want_none (by rfl)) (by rfl) Try.func41 (by kernel_rfl) (by rfl) #[.tmp 11, .tmp 13] _ (by rfl) (fun a w' e1 e2 e3 e4 => by
        have v1 : a.tmps.getD 11 undef = .int .i64 c := (e3 11 (by intro z hz; simp only [List.mem_cons, List.not_mem_nil, or_false] at hz; rcases hz with rfl | rfl <;> simp)).trans (by rfl)
        have v2 : a.tmps.getD 13 undef = .int .i64 c' := (e3 13 (by intro z hz; simp only [List.mem_cons, List.not_mem_nil, or_false] at hz; rcases hz with rfl | rfl <;> simp)).trans (by rfl)
        simp only [List.map_toArray, List.map_cons, List.map_nil, Act.eval, v1, v2]
        refine (compare_any c c' w').mono ?_
        rintro r w3 ⟨rfl, rfl⟩
        exact ⟨_, rfl, rfl, Below.refl _ _, fun g hg => by cases hg⟩)
  case hend =>
    intro vals w3 hb3 hs3 hF hap
    have f4 := hF ⟨4, 9, [], [], IntF (cmpI e e')⟩ (by simp) (by simp)
    have f9 := hF ⟨9, 14, [], [], IntF (cmpI c c')⟩ (by simp) (by simp)
    clear hF hap
    simp only [IntF] at f4 f9
    simp only [List.foldl_cons, List.foldl_nil, f4, f9]
    clear f4 f9
    simp only [Act.put, List.setIfInBounds_toArray, List.set_cons_zero, List.set_cons_succ]
    have B3 := hide (BW.out.trans (hb3.mono ws.out))
    replace hHeld := CC.out w3 B3.out
    clear hb3 hs3
    have kb := int_slice2 w3 (cmpI e e') (cmpI c c')
    refine wpAnyH_ready (rs := [10]) (by kernel_rfl) (by simp) ?_
    refine AllReadyH.cons (by simp only [List.getElem?_toArray, List.getElem?_cons_succ, List.getElem?_cons_zero]; rfl) (fun K hK => ?_) ?_
    rotate_left 1
    · exact AllReadyH.nil
    go_simp
    refine hK.out _ _ ?_ (fun hHeld2 => ?_)
    · ((try dsimp only) <;> (exact CC.out _ (B3.out.alloc B3.out.size _)))
    clear hHeld
    have hHeld := hHeld2
    clear hHeld2 hK K
    try simp only [Act.put, List.setIfInBounds_toArray, List.set_cons_zero, List.set_cons_succ]
    have K4 := hide (Blk.new w3 3 #[.int .i64 (cmpI e e'), .int .i64 (cmpI c c')])
    have B4 := hide (B3.out.alloc B3.out.size (.cells #[.int .i64 (cmpI e e'), .int .i64 (cmpI c c')] 3))
    clear kb
    generalize w3.heap.size = g at *
    generalize w3.alloc _ = w4 at *
    refine wpAnyH_ready (rs := [11]) (by kernel_rfl) (by simp) ?_
    refine AllReadyH.cons (by simp only [List.getElem?_toArray, List.getElem?_cons_succ, List.getElem?_cons_zero]; rfl) (fun K hK => ?_) ?_
    rotate_left 1
    · exact AllReadyH.nil
    go_simp
    refine (or_two _ _ g w4 K4.out).mono ?_; rintro r w5 ⟨rfl, rfl⟩; go_wp2_with fail
    refine hK.out _ _ ?_ (fun hHeld2 => ?_)
    · ((try dsimp only) <;> (first | trivial | assumption | go_keep))
    clear hHeld
    have hHeld := hHeld2
    clear hHeld2 hK K
    try simp only [Act.put, List.setIfInBounds_toArray, List.set_cons_zero, List.set_cons_succ]
    refine wpAnyH_take (i := 12) (v := ?_) (by simp only [List.getElem?_toArray, List.getElem?_cons_succ, List.getElem?_cons_zero]; rfl) (by kernel_rfl) (by kernel_rfl) (by kernel_rfl) (fun _ _ _ h => h) (Or.inl ⟨by rfl, ?_⟩) (by assumption) ?_
    rotate_left 1
    · (intro w hSw; (try dsimp only at hSw); go_simp; try with_reducible rfl)
    try simp only [Act.put, List.setIfInBounds_toArray, List.set_cons_zero, List.set_cons_succ]
    refine wpAnyH_take (i := 13) (v := ?_) (by simp only [List.getElem?_toArray, List.getElem?_cons_succ, List.getElem?_cons_zero]; rfl) (by kernel_rfl) (by kernel_rfl) (by kernel_rfl) (fun _ _ _ h => h) (Or.inl ⟨by rfl, ?_⟩) (by assumption) ?_
    rotate_left 1
    · (intro w hSw; (try dsimp only at hSw); go_simp; try with_reducible rfl)
    try simp only [Act.put, List.setIfInBounds_toArray, List.set_cons_zero, List.set_cons_succ]
    refine wpAnyH_done (by kernel_rfl) ?_ _
    refine NoPanic.normal ?_
    go_wp2_with fail
    go_ret
    exact ⟨by rw [← HNP.out]; rfl, B1.out.trans (B4.out.mono B1.out.size)⟩
set_option maxHeartbeats 1000000 in
theorem rgood_any (e c n f : Int) (w : World) : Calls Try.prog 11 #[ptV e c n f] w fun r w' => r = .returned (.bool (decide (PtP e c n f))) ∧ Below w.heap.size w w' := by
  by_cases h0 : 0 ≤ e
  · by_cases h1 : e < 65536
    · by_cases h2 : 0 ≤ c
      · by_cases h3 : c < 65536
        · by_cases h4 : 0 ≤ n
          · by_cases h5 : n < 4096
            · by_cases h6 : 0 ≤ f
              · by_cases h7 : f < 4096
                · have HN : Hid (decide (PtP e c n f) = true) := hide (decide_eq_true (by unfold PtP; omega))
                  go_enter Try.func11, Try.ntmps11
                  go_wp2_with fail
                  go_ret
                  exact ⟨by rw [HN.out]; rfl, (Below.refl _ _).alloc (Nat.le_refl _) _⟩
                · have HN : Hid (decide (PtP e c n f) = false) := hide (decide_eq_false (fun h => by unfold PtP at h; omega))
                  have hd : decide (f < 4096) = false := decide_eq_false h7
                  go_enter Try.func11, Try.ntmps11
                  go_wp2_with fail
                  go_ret
                  exact ⟨by rw [HN.out]; rfl, (Below.refl _ _).alloc (Nat.le_refl _) _⟩
              · have HN : Hid (decide (PtP e c n f) = false) := hide (decide_eq_false (fun h => by unfold PtP at h; omega))
                have hd : decide (0 ≤ f) = false := decide_eq_false h6
                go_enter Try.func11, Try.ntmps11
                go_wp2_with fail
                go_ret
                exact ⟨by rw [HN.out]; rfl, (Below.refl _ _).alloc (Nat.le_refl _) _⟩
            · have HN : Hid (decide (PtP e c n f) = false) := hide (decide_eq_false (fun h => by unfold PtP at h; omega))
              have hd : decide (n < 4096) = false := decide_eq_false h5
              go_enter Try.func11, Try.ntmps11
              go_wp2_with fail
              go_ret
              exact ⟨by rw [HN.out]; rfl, (Below.refl _ _).alloc (Nat.le_refl _) _⟩
          · have HN : Hid (decide (PtP e c n f) = false) := hide (decide_eq_false (fun h => by unfold PtP at h; omega))
            have hd : decide (0 ≤ n) = false := decide_eq_false h4
            go_enter Try.func11, Try.ntmps11
            go_wp2_with fail
            go_ret
            exact ⟨by rw [HN.out]; rfl, (Below.refl _ _).alloc (Nat.le_refl _) _⟩
        · have HN : Hid (decide (PtP e c n f) = false) := hide (decide_eq_false (fun h => by unfold PtP at h; omega))
          have hd : decide (c < 65536) = false := decide_eq_false h3
          go_enter Try.func11, Try.ntmps11
          go_wp2_with fail
          go_ret
          exact ⟨by rw [HN.out]; rfl, (Below.refl _ _).alloc (Nat.le_refl _) _⟩
      · have HN : Hid (decide (PtP e c n f) = false) := hide (decide_eq_false (fun h => by unfold PtP at h; omega))
        have hd : decide (0 ≤ c) = false := decide_eq_false h2
        go_enter Try.func11, Try.ntmps11
        go_wp2_with fail
        go_ret
        exact ⟨by rw [HN.out]; rfl, (Below.refl _ _).alloc (Nat.le_refl _) _⟩
    · have HN : Hid (decide (PtP e c n f) = false) := hide (decide_eq_false (fun h => by unfold PtP at h; omega))
      have hd : decide (e < 65536) = false := decide_eq_false h1
      go_enter Try.func11, Try.ntmps11
      go_wp2_with fail
      go_ret
      exact ⟨by rw [HN.out]; rfl, (Below.refl _ _).alloc (Nat.le_refl _) _⟩
  · have HN : Hid (decide (PtP e c n f) = false) := hide (decide_eq_false (fun h => by unfold PtP at h; omega))
    have hd : decide (0 ≤ e) = false := decide_eq_false h0
    go_enter Try.func11, Try.ntmps11
    go_wp2_with fail
    go_ret
    exact ⟨by rw [HN.out]; rfl, (Below.refl _ _).alloc (Nat.le_refl _) _⟩
set_option maxHeartbeats 1000000 in
theorem rnewer_any (e c n f e' c' n' f' : Int) (w : World) : Calls Try.prog 18 #[ptV e c n f, ptV e' c' n' f'] w fun r w' => r = .returned (.bool (newP e c e' c')) ∧ Below w.heap.size w w' := by
  by_cases h1 : e' < e
  · have HN : Hid (newP e c e' c' = true) := hide (decide_eq_true (.inl h1))
    go_enter Try.func18, Try.ntmps18
    go_wp2_with fail
    go_ret
    exact ⟨by rw [HN.out]; rfl, ((Below.refl _ _).alloc (Nat.le_refl _) _).alloc (by simp) _⟩
  · have hd1 : decide (e' < e) = false := decide_eq_false h1
    by_cases h2 : e = e'
    · have hd2 : (e == e') = true := by rw [beq_iff_eq]; exact h2
      by_cases h3 : c' < c
      · have HN : Hid (newP e c e' c' = true) := hide (decide_eq_true (.inr ⟨h2, h3⟩))
        clear h2
        go_enter Try.func18, Try.ntmps18
        go_wp2_with fail
        go_ret
        exact ⟨by rw [HN.out]; rfl, ((Below.refl _ _).alloc (Nat.le_refl _) _).alloc (by simp) _⟩
      · have HN : Hid (newP e c e' c' = false) := hide (decide_eq_false (fun h => by omega))
        have hd3 : decide (c' < c) = false := decide_eq_false h3
        clear h2
        go_enter Try.func18, Try.ntmps18
        go_wp2_with fail
        go_ret
        exact ⟨by rw [HN.out]; rfl, ((Below.refl _ _).alloc (Nat.le_refl _) _).alloc (by simp) _⟩
    · have hd2 : (e == e') = false := by rw [beq_eq_false_iff_ne]; exact h2
      have HN : Hid (newP e c e' c' = false) := hide (decide_eq_false (fun h => by omega))
      go_enter Try.func18, Try.ntmps18
      go_wp2_with fail
      go_ret
      exact ⟨by rw [HN.out]; rfl, ((Below.refl _ _).alloc (Nat.le_refl _) _).alloc (by simp) _⟩
theorem pref_any (e c n f : Int) (w : World) : Calls Try.prog 12 #[ptV e c n f] w fun r w' => r = .returned (ptV e c n f) ∧ Below w.heap.size w w' := by
  go_enter Try.func12, Try.ntmps12
  go_wp2_with fail
  refine bodyPost_ret (results_cell_row (g := w.heap.size + 1) (cs := #[.int .i64 e, .int .i64 c, .int .i64 n, .int .i64 f]) (t := 30) (fr := (0, 0)) rfl _ _ (hp := rfl) (hg := by have := Blk.new (w.alloc (.cells #[.int .i64 e, .int .i64 c, .int .i64 n, .int .i64 f] 23)) 30 #[.int .i64 e, .int .i64 c, .int .i64 n, .int .i64 f]; simpa [Blk] using this) (hu := Try.underlying30) (hd := rfl) (hi := by kernel_rfl)) rfl ?_
  exact ⟨rfl, ((Below.refl _ _).alloc (Nat.le_refl _) _).alloc (by simp) _⟩
end Go.Proofs.Ytfaingklglelnaa
