/- The walks over package geom: within, Check, Segs. -/
import Derived.Test.YtdcojnmgipidmaaProg
import Derived.Test.YtdcojnmgipidmaaGeomS
import Derived.Test.YtdcojnmgipidmaaMem
import Derived.Deep.RegionWith
import Derived.Deep.DeepCutAuto
import Derived.Deep.QuietTactic
import Derived.BigQuiet
import Derived.Deep.RegionHeld3
namespace Go.Proofs.Ytdcojnmgipidmaa
open Go.RowKit

/-- A geometry's value. -/
abbrev geoV (b s i : Int) : Value := .agg #[.int .i64 b, .int .i64 s, .int .i64 i]

theorem within_any (n lo hi : Int) (w : World) :
    Calls Try.prog 22 #[.int .i64 n, .int .i64 lo, .int .i64 hi] w fun e w' => e = .returned (.bool (inB n lo hi)) ∧ w = w' := by
  by_cases h1 : lo ≤ n
  · by_cases h2 : n ≤ hi
    · have H := hide (inB_yes ⟨h1, h2⟩)
      go_enter Try.func22, Try.ntmps22
      go_wp2
      go_ret
      exact ⟨by rw [H.out]; simp [h2], rfl⟩
    · have H := hide (inB_no (n := n) (lo := lo) (hi := hi) (fun h => h2 h.2))
      go_enter Try.func22, Try.ntmps22
      go_wp2
      go_ret
      exact ⟨by rw [H.out]; simp [h2], rfl⟩
  · have H := hide (inB_no (n := n) (lo := lo) (hi := hi) (fun h => h1 h.1))
    have hd : decide (lo ≤ n) = false := decide_eq_false h1
    go_enter Try.func22, Try.ntmps22
    go_wp2
    go_ret
    exact ⟨by rw [H.out]; simp [h1], rfl⟩

set_option maxHeartbeats 400000 in
theorem check_yes (b s i : Int) (w : World) (h : GeoP b s i) :
    Calls Try.prog 17 #[geoV b s i] w fun e w' => e = .returned (.int .i64 0) ∧ Below w.heap.size w w' := by
  obtain ⟨h1, h2, h3, h4, h5, h6, h7⟩ := h
  have w1 := inB_yes (n := b) (lo := 64) (hi := 4096) ⟨h1, h2⟩
  have w2 := inB_yes (n := s) (lo := 8) (hi := 64) ⟨h3, h4⟩
  have w3 := inB_yes (n := i) (lo := 4) (hi := 200) ⟨h5, h6⟩
  go_enter Try.func17, Try.ntmps17
  go_wp2_with (go_at_call 22; refine (within_any _ _ _ _).mono ?_; rintro e w' ⟨rfl, rfl⟩)
  go_ret
  exact ⟨rfl, (Below.refl _ _).alloc (Nat.le_refl _) _⟩

set_option maxHeartbeats 400000 in
theorem check_no (b s i : Int) (w : World) (h : ¬ GeoP b s i) :
    Calls Try.prog 17 #[geoV b s i] w fun e w' => e = .returned (.int .i64 22) ∧ Below w.heap.size w w' := by
  rcases geo_no h with h1 | ⟨h1, h2⟩ | ⟨h1, h2, h3⟩ | ⟨⟨h1, h1'⟩, ⟨h2, h2'⟩, h3, h4⟩
  · have w1 := inB_no h1
    clear h h1
    go_enter Try.func17, Try.ntmps17
    go_wp2_with (go_at_call 22; refine (within_any _ _ _ _).mono ?_; rintro e w' ⟨rfl, rfl⟩)
    go_ret
    exact ⟨rfl, (Below.refl _ _).alloc (Nat.le_refl _) _⟩
  · have w1 := inB_yes h1
    have w2 := inB_no h2
    clear h h1 h2
    go_enter Try.func17, Try.ntmps17
    go_wp2_with (go_at_call 22; refine (within_any _ _ _ _).mono ?_; rintro e w' ⟨rfl, rfl⟩)
    go_ret
    exact ⟨rfl, (Below.refl _ _).alloc (Nat.le_refl _) _⟩
  · have w1 := inB_yes h1
    have w2 := inB_yes h2
    have w3 := inB_no h3
    clear h h1 h2 h3
    go_enter Try.func17, Try.ntmps17
    go_wp2_with (go_at_call 22; refine (within_any _ _ _ _).mono ?_; rintro e w' ⟨rfl, rfl⟩)
    go_ret
    exact ⟨rfl, (Below.refl _ _).alloc (Nat.le_refl _) _⟩
  · have w1 := inB_yes (n := b) (lo := 64) (hi := 4096) ⟨h1, h1'⟩
    have w2 := inB_yes (n := s) (lo := 8) (hi := 64) ⟨h2, h2'⟩
    have w3 := inB_yes h3
    clear h h3
    go_enter Try.func17, Try.ntmps17
    go_wp2_with (go_at_call 22; refine (within_any _ _ _ _).mono ?_; rintro e w' ⟨rfl, rfl⟩)
    go_ret
    exact ⟨rfl, (Below.refl _ _).alloc (Nat.le_refl _) _⟩

set_option maxHeartbeats 400000 in
theorem segs_any (b s i : Int) (w : World) :
    Calls Try.prog 16 #[geoV b s i] w fun e w' => e = .returned (.int .i64 (segsI b s i)) ∧ Below w.heap.size w w' := by
  by_cases hg : GeoP b s i
  · have H := hide (segsI_yes hg)
    have Hg := hide hg
    obtain ⟨h1, h2, h3, h4, h5, h6, h7⟩ := hg
    go_enter Try.func16, Try.ntmps16
    go_wp2_with fail
    refine (check_yes b s i _ Hg.out).mono ?_
    rintro e w1 ⟨rfl, hb1⟩
    have hc0 : w1.cell? ⟨w.heap.size, 0, none⟩ = some (.int .i64 b) := by rw [hb1.cell (by simp)]; simp
    have hc1 : w1.cell? ⟨w.heap.size, 1, none⟩ = some (.int .i64 s) := by rw [hb1.cell (by simp)]; simp
    go_wp2
    go_ret
    simp only [World.size_alloc] at hb1
    exact ⟨by rw [H.out]; rfl, ((Below.refl _ _).alloc (Nat.le_refl _) _).trans (hb1.mono (Nat.le_succ _))⟩
  · have H := hide (segsI_no hg)
    have Hg := hide hg
    clear hg
    go_enter Try.func16, Try.ntmps16
    go_wp2_with fail
    refine (check_no b s i _ Hg.out).mono ?_
    rintro e w1 ⟨rfl, hb1⟩
    go_wp2
    go_ret
    simp only [World.size_alloc] at hb1
    exact ⟨by rw [H.out]; rfl, ((Below.refl _ _).alloc (Nat.le_refl _) _).trans (hb1.mono (Nat.le_succ _))⟩

/-- What First says: a geometry's segment. -/
theorem first_yes (b s i k : Int) (w : World) (h0 : 0 ≤ k) (h1 : k < segsI b s i) :
    Calls Try.prog 15 #[geoV b s i, .int .i64 k] w fun e w' => e = .returned (.tuple #[.int .i64 (3 + k * s), .int .i64 0]) ∧ Below w.heap.size w w' := by
  obtain ⟨g1, g2, g3, g4, g5, g6, g7⟩ := segsI_pos (by omega : 0 < segsI b s i)
  have hbd := segsI_bd b s i
  have hin := inB_yes (n := k) (lo := 0) (hi := segsI b s i - 1) ⟨h0, by omega⟩
  have hm1 : 0 ≤ k * s := Int.mul_nonneg h0 (by omega)
  have hm2 : k * s ≤ 512 * 64 := Int.mul_le_mul (by omega) g4 (by omega) (by omega)
  go_enter Try.func15, Try.ntmps15
  go_wp2_with fail
  refine (segs_any b s i _).mono ?_
  rintro e w1 ⟨rfl, hb1⟩
  have hc1 : w1.cell? ⟨w.heap.size, 1, none⟩ = some (.int .i64 s) := by rw [hb1.cell (by simp)]; simp
  go_wp2_with fail
  refine (within_any _ _ _ _).mono ?_
  rintro e w' ⟨rfl, rfl⟩
  go_wp2
  go_ret2
  simp only [World.size_alloc] at hb1
  exact ⟨rfl, ((Below.refl _ _).alloc (Nat.le_refl _) _).trans (hb1.mono (Nat.le_succ _))⟩
theorem first_no (b s i k : Int) (w : World) (h : ¬ (0 ≤ k ∧ k < segsI b s i)) :
    Calls Try.prog 15 #[geoV b s i, .int .i64 k] w fun e w' => e = .returned (.tuple #[.int .i64 0, .int .i64 22]) ∧ Below w.heap.size w w' := by
  have hbd := segsI_bd b s i
  have hin := inB_no (n := k) (lo := 0) (hi := segsI b s i - 1) (by omega)
  clear h
  go_enter Try.func15, Try.ntmps15
  go_wp2_with fail
  refine (segs_any b s i _).mono ?_
  rintro e w1 ⟨rfl, hb1⟩
  go_wp2_with fail
  refine (within_any _ _ _ _).mono ?_
  rintro e w' ⟨rfl, rfl⟩
  go_wp2
  go_ret2
  simp only [World.size_alloc] at hb1
  exact ⟨rfl, ((Below.refl _ _).alloc (Nat.le_refl _) _).trans (hb1.mono (Nat.le_succ _))⟩

set_option maxHeartbeats 1000000 in
theorem of_yes (b s i a : Int) (w : World) (h : inSegs b s i a) :
    Calls Try.prog 12 #[geoV b s i, .int .i64 a] w fun e w' => e = .returned (.tuple #[.int .i64 ((a - 3) / s), .int .i64 ((a - 3) % s), .int .i64 0]) ∧ Below w.heap.size w w' := by
  have hg := inSegs_geo h
  obtain ⟨f1, f2, f3, f4, f5⟩ := segs_fit hg
  obtain ⟨g1, g2, g3, g4, g5, g6, g7⟩ := hg
  have hin := inB_yes h
  obtain ⟨h1, h2⟩ := h
  have hm1 : IntKind.i64.wrap (segsI b s i * s) = segsI b s i * s := IntWalk.i64_in _ (by omega)
  have hm2 : IntKind.i64.wrap (3 + segsI b s i * s) = 3 + segsI b s i * s := IntWalk.i64_in _ (by omega)
  have hm3 : IntKind.i64.wrap (3 + segsI b s i * s - 1) = 3 + segsI b s i * s - 1 := IntWalk.i64_in _ (by omega)
  obtain ⟨p1, p2, p3, p4, -⟩ := place (s := s) (a := a) (n := segsI b s i) (by omega) h1 h2
  go_enter Try.func12, Try.ntmps12
  go_upto_region 1 with fail
  go_cut [16] (fun v wx => v = .bool false ∧ wx.cell? ⟨w.heap.size, 1, none⟩ = some (.int .i64 s) ∧ Below w.heap.size w wx)
  case first =>
    go_region_held3 (fun w' => w'.cell? ⟨w.heap.size, 0, none⟩ = some (.int .i64 b) ∧ w'.cell? ⟨w.heap.size, 1, none⟩ = some (.int .i64 s) ∧ w'.cell? ⟨w.heap.size, 2, none⟩ = some (.int .i64 i))
      (first | go_keep | assumption)
      (first | (go_at_call 16; refine (segs_any b s i _).mono ?_; rintro e w1 ⟨rfl, hb1⟩; have hc1 : w1.cell? ⟨w.heap.size, 1, none⟩ = some (.int .i64 s) := by { rw [hb1.cell (by simp)]; simp }; have hS : w1.cell? ⟨w.heap.size, 0, none⟩ = some (.int .i64 b) ∧ w1.cell? ⟨w.heap.size, 1, none⟩ = some (.int .i64 s) ∧ w1.cell? ⟨w.heap.size, 2, none⟩ = some (.int .i64 i) := by { refine ⟨?_, hc1, ?_⟩ <;> (rw [hb1.cell (by simp)]; simp) }) | (go_at_call 22; refine (within_any _ _ _ _).mono ?_; rintro e w' ⟨rfl, rfl⟩))
    all_goals (go_wp2_with fail; go_meet; exact ⟨rfl, hc1, ((Below.refl _ _).alloc (Nat.le_refl _) _).drew.trans (hb1.mono (by simp))⟩)
  case rest =>
    obtain ⟨rfl, hc1, hb1⟩ := hcut
    clear hm1 hm2 hm3
    go_wp2
    go_quiet (fail)
    go_wp2
    go_ret3
    exact ⟨rfl, bel_dN hb1 _⟩

set_option maxHeartbeats 1000000 in
theorem of_no (b s i a : Int) (w : World) (h : ¬ inSegs b s i a) :
    Calls Try.prog 12 #[geoV b s i, .int .i64 a] w fun e w' => e = .returned (.tuple #[.int .i64 0, .int .i64 0, .int .i64 22]) ∧ Below w.heap.size w w' := by
  obtain ⟨f1, f2⟩ := segs_mul_bd b s i
  have hin := inB_no h
  have hm1 : IntKind.i64.wrap (segsI b s i * s) = segsI b s i * s := IntWalk.i64_in _ (by omega)
  have hm2 : IntKind.i64.wrap (3 + segsI b s i * s) = 3 + segsI b s i * s := IntWalk.i64_in _ (by omega)
  have hm3 : IntKind.i64.wrap (3 + segsI b s i * s - 1) = 3 + segsI b s i * s - 1 := IntWalk.i64_in _ (by omega)
  clear h
  go_enter Try.func12, Try.ntmps12
  go_upto_region 1 with fail
  go_cut [16] (fun v wx => v = .bool true ∧ Below w.heap.size w wx)
  case first =>
    go_region_held3 (fun w' => w'.cell? ⟨w.heap.size, 0, none⟩ = some (.int .i64 b) ∧ w'.cell? ⟨w.heap.size, 1, none⟩ = some (.int .i64 s) ∧ w'.cell? ⟨w.heap.size, 2, none⟩ = some (.int .i64 i))
      (first | go_keep | assumption)
      (first | (go_at_call 16; refine (segs_any b s i _).mono ?_; rintro e w1 ⟨rfl, hb1⟩; have hc1 : w1.cell? ⟨w.heap.size, 1, none⟩ = some (.int .i64 s) := by { rw [hb1.cell (by simp)]; simp }; have hS : w1.cell? ⟨w.heap.size, 0, none⟩ = some (.int .i64 b) ∧ w1.cell? ⟨w.heap.size, 1, none⟩ = some (.int .i64 s) ∧ w1.cell? ⟨w.heap.size, 2, none⟩ = some (.int .i64 i) := by { refine ⟨?_, hc1, ?_⟩ <;> (rw [hb1.cell (by simp)]; simp) }) | (go_at_call 22; refine (within_any _ _ _ _).mono ?_; rintro e w' ⟨rfl, rfl⟩))
    all_goals (go_wp2_with fail; go_meet; exact ⟨rfl, ((Below.refl _ _).alloc (Nat.le_refl _) _).drew.trans (hb1.mono (by simp))⟩)
  case rest =>
    obtain ⟨rfl, hb1⟩ := hcut
    go_wp2
    go_ret3
    exact ⟨rfl, hb1⟩

theorem left_yes (b s i a : Int) (w : World) (h : inSegs b s i a) :
    Calls Try.prog 14 #[geoV b s i, .int .i64 a] w fun e w' => e = .returned (.tuple #[.int .i64 (s - (a - 3) % s), .int .i64 0]) ∧ Below w.heap.size w w' := by
  have H := hide h
  obtain ⟨g1, g2, g3, g4, g5, g6, g7⟩ := inSegs_geo h
  obtain ⟨h1, h2⟩ := h
  obtain ⟨p1, p2, p3, p4, -⟩ := place (s := s) (a := a) (n := segsI b s i) (by omega) h1 h2
  clear h1 h2
  go_enter Try.func14, Try.ntmps14
  go_wp2_with fail
  refine (of_yes b s i a _ H.out).mono ?_
  rintro e w1 ⟨rfl, hb1⟩
  have hc1 : w1.cell? ⟨w.heap.size, 1, none⟩ = some (.int .i64 s) := by rw [hb1.cell (by simp)]; simp
  go_wp2
  go_ret2
  simp only [World.size_alloc] at hb1
  exact ⟨rfl, ((Below.refl _ _).alloc (Nat.le_refl _) _).trans (hb1.mono (Nat.le_succ _))⟩
theorem left_no (b s i a : Int) (w : World) (h : ¬ inSegs b s i a) :
    Calls Try.prog 14 #[geoV b s i, .int .i64 a] w fun e w' => e = .returned (.tuple #[.int .i64 0, .int .i64 22]) ∧ Below w.heap.size w w' := by
  have H := hide h
  clear h
  go_enter Try.func14, Try.ntmps14
  go_wp2_with fail
  refine (of_no b s i a _ H.out).mono ?_
  rintro e w1 ⟨rfl, hb1⟩
  go_wp2
  go_ret2
  simp only [World.size_alloc] at hb1
  exact ⟨rfl, ((Below.refl _ _).alloc (Nat.le_refl _) _).trans (hb1.mono (Nat.le_succ _))⟩

theorem ref_any (b s i : Int) (w : World) :
    Calls Try.prog 11 #[geoV b s i] w fun e w' => e = .returned (geoV b s i) ∧ Below w.heap.size w w' := by
  go_enter Try.func11, Try.ntmps11
  go_wp2
  exact bodyPost_ret (v := geoV b s i) (by simp [results, Try.results11, go_sem]) rfl ⟨rfl, ((Below.refl _ _).alloc (Nat.le_refl _) _).alloc (by simp) _⟩
end Go.Proofs.Ytdcojnmgipidmaa
