import Derived.Test.YtlobkefacnedeaaDoorJa12
import Derived.Deep.RegionWith
import Derived.Deep.DeepCutAuto
import Derived.Deep.QuietTactic
import Derived.BigQuiet
import Derived.Deep.RegionHeld3
set_option linter.unusedVariables false
set_option linter.unusedSimpArgs false
/- What geometries are, in plain numbers. No program in sight. -/
namespace Go.Proofs.YtlobkefacnedeaaDoor

/-- Is a number from lo to hi? -/
def inB (n lo hi : Int) : Bool := decide (lo ≤ n ∧ n ≤ hi)
theorem inB_yes {n lo hi : Int} (h : lo ≤ n ∧ n ≤ hi) : inB n lo hi = true := decide_eq_true h
theorem inB_no {n lo hi : Int} (h : ¬ (lo ≤ n ∧ n ≤ hi)) : inB n lo hi = false := decide_eq_false h
/-- Are these numbers a geometry? -/
def GeoP (b s i : Int) : Prop := 64 ≤ b ∧ b ≤ 4096 ∧ 8 ≤ s ∧ s ≤ 64 ∧ 4 ≤ i ∧ i ≤ 200 ∧ 6 ≤ (b - 3) / s
instance (b s i : Int) : Decidable (GeoP b s i) := by unfold GeoP; infer_instance
/-- How many segments. -/
def segsI (b s i : Int) : Int := if GeoP b s i then (b - 3) / s else 0
theorem segsI_yes {b s i : Int} (h : GeoP b s i) : segsI b s i = (b - 3) / s := if_pos h
theorem segsI_no {b s i : Int} (h : ¬ GeoP b s i) : segsI b s i = 0 := if_neg h
theorem div_bd {b s : Int} (h1 : 64 ≤ b) (h2 : b ≤ 4096) (h3 : 8 ≤ s) : 0 ≤ (b - 3) / s ∧ (b - 3) / s ≤ 512 ∧ (b - 3) / s * s ≤ b - 3 ∧ b - 3 < (b - 3) / s * s + s := by
  have e := Int.mul_ediv_add_emod (b - 3) s
  have h4 := Int.emod_nonneg (b - 3) (show s ≠ 0 by omega)
  have h5 := Int.emod_lt_of_pos (b - 3) (show 0 < s by omega)
  have h6 : 0 ≤ (b - 3) / s := Int.ediv_nonneg (by omega) (by omega)
  rw [Int.mul_comm] at e
  refine ⟨h6, ?_, by omega, by omega⟩
  have : (b - 3) / s ≤ 4093 / 8 := by
    refine Int.le_of_lt_add_one ((Int.ediv_lt_iff_lt_mul (by omega)).2 ?_)
    have : (4093 / 8 + 1 : Int) * 8 ≤ (4093 / 8 + 1) * s := Int.mul_le_mul_of_nonneg_left (by omega) (by omega)
    omega
  omega
theorem segsI_bd (b s i : Int) : 0 ≤ segsI b s i ∧ segsI b s i ≤ 512 := by
  by_cases h : GeoP b s i
  · rw [segsI_yes h]; have := div_bd h.1 h.2.1 h.2.2.1; omega
  · rw [segsI_no h]; omega
theorem segsI_pos {b s i : Int} (h : 0 < segsI b s i) : GeoP b s i := by
  by_cases hg : GeoP b s i
  · exact hg
  · rw [segsI_no hg] at h; omega
/-- Which of the tests says no first. -/
theorem geo_no {b s i : Int} (h : ¬ GeoP b s i) :
    ¬ (64 ≤ b ∧ b ≤ 4096) ∨ ((64 ≤ b ∧ b ≤ 4096) ∧ ¬ (8 ≤ s ∧ s ≤ 64)) ∨ ((64 ≤ b ∧ b ≤ 4096) ∧ (8 ≤ s ∧ s ≤ 64) ∧ ¬ (4 ≤ i ∧ i ≤ 200)) ∨
      ((64 ≤ b ∧ b ≤ 4096) ∧ (8 ≤ s ∧ s ≤ 64) ∧ (4 ≤ i ∧ i ≤ 200) ∧ (b - 3) / s < 6) := by
  unfold GeoP at h; omega
/-- Is it a block of a segment? -/
def inSegs (b s i a : Int) : Prop := 3 ≤ a ∧ a ≤ 3 + segsI b s i * s - 1
theorem inSegs_geo {b s i a : Int} (h : inSegs b s i a) : GeoP b s i := by
  by_cases hg : GeoP b s i
  · exact hg
  · unfold inSegs at h; rw [segsI_no hg] at h; omega
theorem segs_fit {b s i : Int} (h : GeoP b s i) : 6 ≤ segsI b s i ∧ segsI b s i ≤ 512 ∧ 48 ≤ segsI b s i * s ∧ segsI b s i * s ≤ b - 3 ∧ b - 3 < segsI b s i * s + s := by
  obtain ⟨h1, h2, h3, h4, h5, h6, h7⟩ := h
  rw [segsI_yes ⟨h1, h2, h3, h4, h5, h6, h7⟩]
  have := div_bd h1 h2 h3
  have h8 : 6 * 8 ≤ (b - 3) / s * s := Int.mul_le_mul h7 h3 (by omega) (by omega)
  omega
/-- The place of a block: its segment, and where in it. -/
theorem place {s a n : Int} (hs : 0 < s) (h : 3 ≤ a) (h2 : a ≤ 3 + n * s - 1) : 0 ≤ (a - 3) / s ∧ (a - 3) / s < n ∧ 0 ≤ (a - 3) % s ∧ (a - 3) % s < s ∧ a = 3 + (a - 3) / s * s + (a - 3) % s := by
  have e := Int.mul_ediv_add_emod (a - 3) s
  have h4 := Int.emod_nonneg (a - 3) (show s ≠ 0 by omega)
  have h5 := Int.emod_lt_of_pos (a - 3) hs
  have h6 : 0 ≤ (a - 3) / s := Int.ediv_nonneg (by omega) (by omega)
  have h7 : (a - 3) / s < n := (Int.ediv_lt_iff_lt_mul hs).2 (by omega)
  rw [Int.mul_comm] at e
  exact ⟨h6, h7, h4, h5, by omega⟩
theorem place_one {s a q k : Int} (hk0 : 0 ≤ k) (hk : k < s) (h : a = 3 + q * s + k) : (a - 3) / s = q ∧ (a - 3) % s = k := by
  have e : a - 3 = k + s * q := by rw [Int.mul_comm]; omega
  rw [e, Int.add_mul_ediv_left _ _ (by omega), Int.add_mul_emod_self_left, Int.ediv_eq_zero_of_lt hk0 hk, Int.emod_eq_of_lt hk0 hk]
  exact ⟨by omega, rfl⟩
theorem segs_mul_bd (b s i : Int) : 0 ≤ segsI b s i * s ∧ segsI b s i * s ≤ 4096 := by
  by_cases hg : GeoP b s i
  · have := segs_fit hg
    obtain ⟨g1, g2, _⟩ := hg
    omega
  · rw [segsI_no hg]; omega
/-- Which of the reference's tests says yes first. -/
theorem ref_no {b s i : Int} (h : ¬ (64 ≤ b ∧ b ≤ 4096 ∧ 8 ≤ s ∧ s ≤ 64 ∧ 4 ≤ i ∧ i ≤ 200)) :
    b < 64 ∨ (64 ≤ b ∧ 4096 < b) ∨ ((64 ≤ b ∧ b ≤ 4096) ∧ s < 8) ∨ ((64 ≤ b ∧ b ≤ 4096) ∧ 8 ≤ s ∧ 64 < s) ∨
      ((64 ≤ b ∧ b ≤ 4096) ∧ (8 ≤ s ∧ s ≤ 64) ∧ i < 4) ∨ ((64 ≤ b ∧ b ≤ 4096) ∧ (8 ≤ s ∧ s ≤ 64) ∧ 4 ≤ i ∧ 200 < i) := by omega
theorem seg_more {b s n : Int} (hs : 0 < s) (h : 3 + (n + 1) * s ≤ b) : n + 1 ≤ (b - 3) / s := (Int.le_ediv_iff_mul_le hs).2 (by omega)
theorem seg_less {b s n : Int} (hs : 0 < s) (h : ¬ 3 + (n + 1) * s ≤ b) : (b - 3) / s ≤ n := by
  have : (b - 3) / s < n + 1 := (Int.ediv_lt_iff_lt_mul hs).2 (by omega)
  omega
theorem mul_bd {n s : Int} (h0 : 0 ≤ n) (h1 : n ≤ 1000) (h2 : 8 ≤ s) (h3 : s ≤ 64) : 0 ≤ n * s ∧ n * s ≤ 64000 :=
  ⟨Int.mul_nonneg h0 (by omega), Int.mul_le_mul h1 h3 (by omega) (by omega)⟩
instance (b s i a : Int) : Decidable (inSegs b s i a) := by unfold inSegs; infer_instance
/-- The answer of Of, the error a number. -/
def ofV (b s i a : Int) : Value := if inSegs b s i a then .tuple #[.int .i64 ((a - 3) / s), .int .i64 ((a - 3) % s), .int .i64 0] else .tuple #[.int .i64 0, .int .i64 0, .int .i64 22]
theorem ofV_yes {b s i a : Int} (h : inSegs b s i a) : ofV b s i a = .tuple #[.int .i64 ((a - 3) / s), .int .i64 ((a - 3) % s), .int .i64 0] := if_pos h
theorem ofV_no {b s i a : Int} (h : ¬ inSegs b s i a) : ofV b s i a = .tuple #[.int .i64 0, .int .i64 0, .int .i64 22] := if_neg h
theorem ofV_found {b s i a q k : Int} (hq0 : 0 ≤ q) (hq : q < segsI b s i) (hk0 : 0 ≤ k) (hk : k < s) (h : a = 3 + q * s + k) : ofV b s i a = .tuple #[.int .i64 q, .int .i64 k, .int .i64 0] := by
  have h1 : (q + 1) * s ≤ segsI b s i * s := Int.mul_le_mul_of_nonneg_right (by omega) (by omega)
  rw [Int.add_mul, Int.one_mul] at h1
  have h2 : 0 ≤ q * s := Int.mul_nonneg hq0 (by omega)
  obtain ⟨e1, e2⟩ := place_one hk0 hk h
  rw [ofV_yes (⟨by omega, by omega⟩ : inSegs b s i a), e1, e2]
theorem ofV_none {b s i a : Int} (h : ¬ (3 ≤ a ∧ a < 3 + segsI b s i * s)) : ofV b s i a = .tuple #[.int .i64 0, .int .i64 0, .int .i64 22] := ofV_no (fun h' => h ⟨h'.1, by have := h'.2; omega⟩)
theorem seg_fits {b s i k : Int} (h0 : 0 ≤ k) (h1 : k < segsI b s i) : 3 + k * s + s ≤ b := by
  have hg := segsI_pos (by omega : 0 < segsI b s i)
  have := segs_fit hg
  have h2 : (k + 1) * s ≤ segsI b s i * s := Int.mul_le_mul_of_nonneg_right (by omega) (by have := hg.2.2.1; omega)
  rw [Int.add_mul, Int.one_mul] at h2
  omega
theorem at_place {b s i k j : Int} (h0 : 0 ≤ k) (h1 : k < segsI b s i) (j0 : 0 ≤ j) (j1 : j < s) : inSegs b s i (3 + k * s + j) ∧ (3 + k * s + j - 3) / s = k ∧ (3 + k * s + j - 3) % s = j := by
  obtain ⟨e1, e2⟩ := place_one (s := s) (a := 3 + k * s + j) (q := k) (k := j) j0 j1 rfl
  have h2 : (k + 1) * s ≤ segsI b s i * s := Int.mul_le_mul_of_nonneg_right (by omega) (by omega)
  rw [Int.add_mul, Int.one_mul] at h2
  have h3 : 0 ≤ k * s := Int.mul_nonneg h0 (by omega)
  exact ⟨⟨by omega, by omega⟩, e1, e2⟩
theorem at_first {b s i k : Int} (h0 : 0 ≤ k) (h1 : k < segsI b s i) : inSegs b s i (3 + k * s) ∧ (3 + k * s - 3) / s = k ∧ (3 + k * s - 3) % s = 0 := by
  have hg := segsI_pos (by omega : 0 < segsI b s i)
  have := at_place (j := 0) h0 h1 (by omega) (by have := hg.2.2.1; omega)
  simpa using this
theorem geo_more {b s i d : Int} (h : GeoP b s i) (h0 : 0 ≤ d) (h1 : d ≤ 4096 - b) : GeoP (b + d) s i ∧ segsI b s i ≤ segsI (b + d) s i ∧ (segsI (b + d) s i - segsI b s i) * s ≤ d + s := by
  have hf := segs_fit h
  obtain ⟨g1, g2, g3, g4, g5, g6, g7⟩ := h
  have hm : (b - 3) / s ≤ (b + d - 3) / s := Int.ediv_le_ediv (by omega) (by omega)
  have h2 : GeoP (b + d) s i := ⟨by omega, by omega, g3, g4, g5, g6, by omega⟩
  have hf2 := segs_fit h2
  refine ⟨h2, ?_, ?_⟩
  · rw [segsI_yes h2, segsI_yes ⟨g1, g2, g3, g4, g5, g6, g7⟩]; exact hm
  · rw [Int.sub_mul]; omega
theorem more_place (c : Int) (b : Int) (h1 : 64 ≤ b) (h2 : b ≤ 4096) : ∃ d : Int, RowKit.wrap64 ((IntKind.u64.wrap c).tmod (4097 - b)) = d ∧ 0 ≤ d ∧ d ≤ 4096 - b := by
  have h0' : 0 ≤ IntKind.u64.wrap c := by simp [IntKind.wrap, IntKind.bits, IntKind.signed]; omega
  generalize IntKind.u64.wrap c = u at *
  rw [Int.tmod_eq_emod_of_nonneg h0']
  have e1 := Int.emod_nonneg u (show 4097 - b ≠ 0 by omega)
  have e2 := Int.emod_lt_of_pos u (show (0 : Int) < 4097 - b by omega)
  exact ⟨_, IntWalk.wrap64_in _ (by omega), by omega, by omega⟩
end Go.Proofs.YtlobkefacnedeaaDoor

/- The walks over package geom: within, Check, Segs. -/
namespace Go.Proofs.YtlobkefacnedeaaDoor
open Go.RowKit
set_option maxRecDepth 100000

/-- A geometry's value. -/
abbrev geoV (b s i : Int) : Value := .agg #[.int .i64 b, .int .i64 s, .int .i64 i]

theorem gwithin_any (n lo hi : Int) (w : World) :
    Calls Tryd.prog 58 #[.int .i64 n, .int .i64 lo, .int .i64 hi] w fun e w' => e = .returned (.bool (inB n lo hi)) ∧ w = w' := by
  by_cases h1 : lo ≤ n
  · by_cases h2 : n ≤ hi
    · have H := hide (inB_yes ⟨h1, h2⟩)
      go_enter Tryd.func58, Tryd.ntmps58
      go_wp2
      go_ret
      exact ⟨by rw [H.out]; simp [h2], rfl⟩
    · have H := hide (inB_no (n := n) (lo := lo) (hi := hi) (fun h => h2 h.2))
      go_enter Tryd.func58, Tryd.ntmps58
      go_wp2
      go_ret
      exact ⟨by rw [H.out]; simp [h2], rfl⟩
  · have H := hide (inB_no (n := n) (lo := lo) (hi := hi) (fun h => h1 h.1))
    have hd : decide (lo ≤ n) = false := decide_eq_false h1
    go_enter Tryd.func58, Tryd.ntmps58
    go_wp2
    go_ret
    exact ⟨by rw [H.out]; simp [h1], rfl⟩

set_option maxHeartbeats 400000 in
theorem check_yes (b s i : Int) (w : World) (h : GeoP b s i) :
    Calls Tryd.prog 61 #[geoV b s i] w fun e w' => e = .returned (.int .i64 0) ∧ Below w.heap.size w w' := by
  obtain ⟨h1, h2, h3, h4, h5, h6, h7⟩ := h
  have w1 := inB_yes (n := b) (lo := 64) (hi := 4096) ⟨h1, h2⟩
  have w2 := inB_yes (n := s) (lo := 8) (hi := 64) ⟨h3, h4⟩
  have w3 := inB_yes (n := i) (lo := 4) (hi := 200) ⟨h5, h6⟩
  go_enter Tryd.func61, Tryd.ntmps61
  go_wp2_with (go_at_call 58; refine (gwithin_any _ _ _ _).mono ?_; rintro e w' ⟨rfl, rfl⟩)
  go_ret
  exact ⟨rfl, (Below.refl _ _).alloc (Nat.le_refl _) _⟩

set_option maxHeartbeats 400000 in
theorem check_no (b s i : Int) (w : World) (h : ¬ GeoP b s i) :
    Calls Tryd.prog 61 #[geoV b s i] w fun e w' => e = .returned (.int .i64 22) ∧ Below w.heap.size w w' := by
  rcases geo_no h with h1 | ⟨h1, h2⟩ | ⟨h1, h2, h3⟩ | ⟨⟨h1, h1'⟩, ⟨h2, h2'⟩, h3, h4⟩
  · have w1 := inB_no h1
    clear h h1
    go_enter Tryd.func61, Tryd.ntmps61
    go_wp2_with (go_at_call 58; refine (gwithin_any _ _ _ _).mono ?_; rintro e w' ⟨rfl, rfl⟩)
    go_ret
    exact ⟨rfl, (Below.refl _ _).alloc (Nat.le_refl _) _⟩
  · have w1 := inB_yes h1
    have w2 := inB_no h2
    clear h h1 h2
    go_enter Tryd.func61, Tryd.ntmps61
    go_wp2_with (go_at_call 58; refine (gwithin_any _ _ _ _).mono ?_; rintro e w' ⟨rfl, rfl⟩)
    go_ret
    exact ⟨rfl, (Below.refl _ _).alloc (Nat.le_refl _) _⟩
  · have w1 := inB_yes h1
    have w2 := inB_yes h2
    have w3 := inB_no h3
    clear h h1 h2 h3
    go_enter Tryd.func61, Tryd.ntmps61
    go_wp2_with (go_at_call 58; refine (gwithin_any _ _ _ _).mono ?_; rintro e w' ⟨rfl, rfl⟩)
    go_ret
    exact ⟨rfl, (Below.refl _ _).alloc (Nat.le_refl _) _⟩
  · have w1 := inB_yes (n := b) (lo := 64) (hi := 4096) ⟨h1, h1'⟩
    have w2 := inB_yes (n := s) (lo := 8) (hi := 64) ⟨h2, h2'⟩
    have w3 := inB_yes h3
    clear h h3
    go_enter Tryd.func61, Tryd.ntmps61
    go_wp2_with (go_at_call 58; refine (gwithin_any _ _ _ _).mono ?_; rintro e w' ⟨rfl, rfl⟩)
    go_ret
    exact ⟨rfl, (Below.refl _ _).alloc (Nat.le_refl _) _⟩

set_option maxHeartbeats 400000 in
theorem segs_any (b s i : Int) (w : World) :
    Calls Tryd.prog 59 #[geoV b s i] w fun e w' => e = .returned (.int .i64 (segsI b s i)) ∧ Below w.heap.size w w' := by
  by_cases hg : GeoP b s i
  · have H := hide (segsI_yes hg)
    have Hg := hide hg
    obtain ⟨h1, h2, h3, h4, h5, h6, h7⟩ := hg
    go_enter Tryd.func59, Tryd.ntmps59
    go_wp2_with fail
    refine (check_yes b s i _ Hg.out).mono ?_
    rintro e w1 ⟨rfl, hb1⟩
    have hc0 : w1.cell? ⟨w.heap.size, 0, none⟩ = some (.int .i64 b) := by rw [hb1.cell (by simp)]; simp
    have hc1 : w1.cell? ⟨w.heap.size, 1, none⟩ = some (.int .i64 s) := by rw [hb1.cell (by simp)]; simp
    go_wp2
    go_ret
    simp only [World.size_alloc] at hb1
    exact ⟨by rw [H.out]; rfl, ((Below.refl _ _).alloc (Nat.le_refl _) _).trans (hb1.mono (Nat.le_succ _))⟩
  · have H := hide (segsI_no hg)
    have Hg := hide hg
    clear hg
    go_enter Tryd.func59, Tryd.ntmps59
    go_wp2_with fail
    refine (check_no b s i _ Hg.out).mono ?_
    rintro e w1 ⟨rfl, hb1⟩
    go_wp2
    go_ret
    simp only [World.size_alloc] at hb1
    exact ⟨by rw [H.out]; rfl, ((Below.refl _ _).alloc (Nat.le_refl _) _).trans (hb1.mono (Nat.le_succ _))⟩

/-- What First says: a geometry's segment. -/
theorem first_yes (b s i k : Int) (w : World) (h0 : 0 ≤ k) (h1 : k < segsI b s i) :
    Calls Tryd.prog 28 #[geoV b s i, .int .i64 k] w fun e w' => e = .returned (.tuple #[.int .i64 (3 + k * s), .int .i64 0]) ∧ Below w.heap.size w w' := by
  obtain ⟨g1, g2, g3, g4, g5, g6, g7⟩ := segsI_pos (by omega : 0 < segsI b s i)
  have hbd := segsI_bd b s i
  have hin := inB_yes (n := k) (lo := 0) (hi := segsI b s i - 1) ⟨h0, by omega⟩
  have hm1 : 0 ≤ k * s := Int.mul_nonneg h0 (by omega)
  have hm2 : k * s ≤ 512 * 64 := Int.mul_le_mul (by omega) g4 (by omega) (by omega)
  go_enter Tryd.func28, Tryd.ntmps28
  go_wp2_with fail
  refine (segs_any b s i _).mono ?_
  rintro e w1 ⟨rfl, hb1⟩
  have hc1 : w1.cell? ⟨w.heap.size, 1, none⟩ = some (.int .i64 s) := by rw [hb1.cell (by simp)]; simp
  go_wp2_with fail
  refine (gwithin_any _ _ _ _).mono ?_
  rintro e w' ⟨rfl, rfl⟩
  go_wp2
  go_ret2
  simp only [World.size_alloc] at hb1
  exact ⟨rfl, ((Below.refl _ _).alloc (Nat.le_refl _) _).trans (hb1.mono (Nat.le_succ _))⟩
theorem first_no (b s i k : Int) (w : World) (h : ¬ (0 ≤ k ∧ k < segsI b s i)) :
    Calls Tryd.prog 28 #[geoV b s i, .int .i64 k] w fun e w' => e = .returned (.tuple #[.int .i64 0, .int .i64 22]) ∧ Below w.heap.size w w' := by
  have hbd := segsI_bd b s i
  have hin := inB_no (n := k) (lo := 0) (hi := segsI b s i - 1) (by omega)
  clear h
  go_enter Tryd.func28, Tryd.ntmps28
  go_wp2_with fail
  refine (segs_any b s i _).mono ?_
  rintro e w1 ⟨rfl, hb1⟩
  go_wp2_with fail
  refine (gwithin_any _ _ _ _).mono ?_
  rintro e w' ⟨rfl, rfl⟩
  go_wp2
  go_ret2
  simp only [World.size_alloc] at hb1
  exact ⟨rfl, ((Below.refl _ _).alloc (Nat.le_refl _) _).trans (hb1.mono (Nat.le_succ _))⟩

set_option maxHeartbeats 1000000 in
theorem of_yes (b s i a : Int) (w : World) (h : inSegs b s i a) :
    Calls Tryd.prog 32 #[geoV b s i, .int .i64 a] w fun e w' => e = .returned (.tuple #[.int .i64 ((a - 3) / s), .int .i64 ((a - 3) % s), .int .i64 0]) ∧ Below w.heap.size w w' := by
  have hg := inSegs_geo h
  obtain ⟨f1, f2, f3, f4, f5⟩ := segs_fit hg
  obtain ⟨g1, g2, g3, g4, g5, g6, g7⟩ := hg
  have hin := inB_yes h
  obtain ⟨h1, h2⟩ := h
  have hm1 : IntKind.i64.wrap (segsI b s i * s) = segsI b s i * s := IntWalk.i64_in _ (by omega)
  have hm2 : IntKind.i64.wrap (3 + segsI b s i * s) = 3 + segsI b s i * s := IntWalk.i64_in _ (by omega)
  have hm3 : IntKind.i64.wrap (3 + segsI b s i * s - 1) = 3 + segsI b s i * s - 1 := IntWalk.i64_in _ (by omega)
  obtain ⟨p1, p2, p3, p4, -⟩ := place (s := s) (a := a) (n := segsI b s i) (by omega) h1 h2
  go_enter Tryd.func32, Tryd.ntmps32
  go_upto_region 1 with fail
  go_cut [16] (fun v wx => v = .bool false ∧ wx.cell? ⟨w.heap.size, 1, none⟩ = some (.int .i64 s) ∧ Below w.heap.size w wx)
  case first =>
    go_region_held3 (fun w' => w'.cell? ⟨w.heap.size, 0, none⟩ = some (.int .i64 b) ∧ w'.cell? ⟨w.heap.size, 1, none⟩ = some (.int .i64 s) ∧ w'.cell? ⟨w.heap.size, 2, none⟩ = some (.int .i64 i))
      (first | go_keep | assumption)
      (first | (go_at_call 59; refine (segs_any b s i _).mono ?_; rintro e w1 ⟨rfl, hb1⟩; have hc1 : w1.cell? ⟨w.heap.size, 1, none⟩ = some (.int .i64 s) := by { rw [hb1.cell (by simp)]; simp }; have hS : w1.cell? ⟨w.heap.size, 0, none⟩ = some (.int .i64 b) ∧ w1.cell? ⟨w.heap.size, 1, none⟩ = some (.int .i64 s) ∧ w1.cell? ⟨w.heap.size, 2, none⟩ = some (.int .i64 i) := by { refine ⟨?_, hc1, ?_⟩ <;> (rw [hb1.cell (by simp)]; simp) }) | (go_at_call 58; refine (gwithin_any _ _ _ _).mono ?_; rintro e w' ⟨rfl, rfl⟩))
    all_goals (go_wp2_with fail; go_meet; exact ⟨rfl, hc1, ((Below.refl _ _).alloc (Nat.le_refl _) _).drew.trans (hb1.mono (by simp))⟩)
  case rest =>
    obtain ⟨rfl, hc1, hb1⟩ := hcut
    clear hm1 hm2 hm3
    go_wp2
    go_quiet (fail)
    go_wp2
    go_ret3
    exact ⟨rfl, bel_dN hb1 _⟩

set_option maxHeartbeats 1000000 in
theorem of_no (b s i a : Int) (w : World) (h : ¬ inSegs b s i a) :
    Calls Tryd.prog 32 #[geoV b s i, .int .i64 a] w fun e w' => e = .returned (.tuple #[.int .i64 0, .int .i64 0, .int .i64 22]) ∧ Below w.heap.size w w' := by
  obtain ⟨f1, f2⟩ := segs_mul_bd b s i
  have hin := inB_no h
  have hm1 : IntKind.i64.wrap (segsI b s i * s) = segsI b s i * s := IntWalk.i64_in _ (by omega)
  have hm2 : IntKind.i64.wrap (3 + segsI b s i * s) = 3 + segsI b s i * s := IntWalk.i64_in _ (by omega)
  have hm3 : IntKind.i64.wrap (3 + segsI b s i * s - 1) = 3 + segsI b s i * s - 1 := IntWalk.i64_in _ (by omega)
  clear h
  go_enter Tryd.func32, Tryd.ntmps32
  go_upto_region 1 with fail
  go_cut [16] (fun v wx => v = .bool true ∧ Below w.heap.size w wx)
  case first =>
    go_region_held3 (fun w' => w'.cell? ⟨w.heap.size, 0, none⟩ = some (.int .i64 b) ∧ w'.cell? ⟨w.heap.size, 1, none⟩ = some (.int .i64 s) ∧ w'.cell? ⟨w.heap.size, 2, none⟩ = some (.int .i64 i))
      (first | go_keep | assumption)
      (first | (go_at_call 59; refine (segs_any b s i _).mono ?_; rintro e w1 ⟨rfl, hb1⟩; have hc1 : w1.cell? ⟨w.heap.size, 1, none⟩ = some (.int .i64 s) := by { rw [hb1.cell (by simp)]; simp }; have hS : w1.cell? ⟨w.heap.size, 0, none⟩ = some (.int .i64 b) ∧ w1.cell? ⟨w.heap.size, 1, none⟩ = some (.int .i64 s) ∧ w1.cell? ⟨w.heap.size, 2, none⟩ = some (.int .i64 i) := by { refine ⟨?_, hc1, ?_⟩ <;> (rw [hb1.cell (by simp)]; simp) }) | (go_at_call 58; refine (gwithin_any _ _ _ _).mono ?_; rintro e w' ⟨rfl, rfl⟩))
    all_goals (go_wp2_with fail; go_meet; exact ⟨rfl, ((Below.refl _ _).alloc (Nat.le_refl _) _).drew.trans (hb1.mono (by simp))⟩)
  case rest =>
    obtain ⟨rfl, hb1⟩ := hcut
    go_wp2
    go_ret3
    exact ⟨rfl, hb1⟩

theorem left_yes (b s i a : Int) (w : World) (h : inSegs b s i a) :
    Calls Tryd.prog 31 #[geoV b s i, .int .i64 a] w fun e w' => e = .returned (.tuple #[.int .i64 (s - (a - 3) % s), .int .i64 0]) ∧ Below w.heap.size w w' := by
  have H := hide h
  obtain ⟨g1, g2, g3, g4, g5, g6, g7⟩ := inSegs_geo h
  obtain ⟨h1, h2⟩ := h
  obtain ⟨p1, p2, p3, p4, -⟩ := place (s := s) (a := a) (n := segsI b s i) (by omega) h1 h2
  clear h1 h2
  go_enter Tryd.func31, Tryd.ntmps31
  go_wp2_with fail
  refine (of_yes b s i a _ H.out).mono ?_
  rintro e w1 ⟨rfl, hb1⟩
  have hc1 : w1.cell? ⟨w.heap.size, 1, none⟩ = some (.int .i64 s) := by rw [hb1.cell (by simp)]; simp
  go_wp2
  go_ret2
  simp only [World.size_alloc] at hb1
  exact ⟨rfl, ((Below.refl _ _).alloc (Nat.le_refl _) _).trans (hb1.mono (Nat.le_succ _))⟩
theorem left_no (b s i a : Int) (w : World) (h : ¬ inSegs b s i a) :
    Calls Tryd.prog 31 #[geoV b s i, .int .i64 a] w fun e w' => e = .returned (.tuple #[.int .i64 0, .int .i64 22]) ∧ Below w.heap.size w w' := by
  have H := hide h
  clear h
  go_enter Tryd.func31, Tryd.ntmps31
  go_wp2_with fail
  refine (of_no b s i a _ H.out).mono ?_
  rintro e w1 ⟨rfl, hb1⟩
  go_wp2
  go_ret2
  simp only [World.size_alloc] at hb1
  exact ⟨rfl, ((Below.refl _ _).alloc (Nat.le_refl _) _).trans (hb1.mono (Nat.le_succ _))⟩

end Go.Proofs.YtlobkefacnedeaaDoor

/- The walk of seg.within. -/
namespace Go.Proofs.YtlobkefacnedeaaDoor
open Go.RowKit
set_option maxRecDepth 100000
attribute [local go_sem ↓] Go.wp_at_zero Go.wp_at_succ

instance (b s i a : Int) : Decidable (inSegs b s i a) := by unfold inSegs; infer_instance
/-- What stands at a place of a segment. -/
def wiS (D : Dsk) (b s i a : Int) : Int × PV × List (List UInt8) := if inSegs b s i a then rdS D a else (22, pv0, [])
/-- Does it stand within its segment? -/
def wiK (D : Dsk) (b s i a : Int) : Bool := decide ((wiS D b s i a).1 = 0 ∧ ((wiS D b s i a).2.1.n : Int) ≤ s - (a - 3) % s)
def WiAns (D : Dsk) (b s i a : Int) (base : Nat) (r : Ending) (w' : World) : Prop :=
  ∃ B1 d1 B2 d2 A3 c3 gs, r = .returned (.tuple #[.agg (fdC (if (wiS D b s i a).1 = 0 then a else 0) (wiS D b s i a).2.1 B1 d1 B2 d2 A3 (wiS D b s i a).2.2.length c3), .bool (wiK D b s i a)]) ∧ FdAt base w' (wiS D b s i a).2.1 (wiS D b s i a).2.2 B1 B2 A3 c3 gs
theorem ret_wi {K : Ending → World → Prop} {tmps : Array Value} {w : World} {g : Nat} {cs : Array Value} {v : Value} (hp : tmps.getD 6 undef = .pointer (some ⟨g, 0, none⟩)) (hq : tmps.getD 7 undef = v) (hB : Blk w g 39 cs) (hs : cs.size = 9)
    (hK : K (.returned (.tuple #[.agg cs, v])) w) : bodyPost Tryd.prog Tryd.f60 K .ret ⟨tmps, []⟩ w :=
  bodyPost_ret (results_cell_slotG (g := g) (cs := cs) (t := 39) (fr := (0, 0)) rfl _ _ (v := v) (hp := hp) (hq := hq) (hg := hB) (hu := Tryd.underlying39) (hd := rfl) (hi := by rw [hs]; kernel_rfl)) rfl hK
theorem FdAt.kt {base c3 : Nat} {w w' : World} {v : PV} {bs : List (List UInt8)} {B1 B2 A3 : Option Addr} {gs : List Nat} {T : List TypeId} (h : FdAt base w v bs B1 B2 A3 c3 gs) (hk : Kt T base w w') (h1 : 3 ∉ T) (h2 : 92 ∉ T) (h3 : 26 ∉ T) (h4 : 122 ∉ T) : FdAt base w' v bs B1 B2 A3 c3 gs :=
  ⟨h.f.kt hk h1 h2, RwAt.kt h.i hk h1, h.b.kt hk h3 h4⟩
theorem RwAt.dn {lo base lo' base' k n : Nat} {t : TypeId} {w : World} {A : Option Addr} {xs : List Value} (h : RwAt lo base t k w A n xs) (hb : base ≤ lo) (hl : lo' ≤ lo) : RwAt lo' base' t k w A n xs :=
  ⟨h.len, fun j u hu => by
    obtain ⟨b, off, e, ⟨h1, h2, h3⟩, hc⟩ := h.cells j u hu
    exact ⟨b, off, e, ⟨Nat.le_trans hl h1, h2, .inr (h3.resolve_left (by omega))⟩, hc⟩⟩
theorem FisAt.dn {lo base lo' base' n : Nat} {w : World} {A : Option Addr} {fs : List FI} (h : FisAt lo base w A n fs) (hb : base ≤ lo) (hl : lo' ≤ lo) : FisAt lo' base' w A n fs := by
  obtain ⟨cs, h1, h2, h3, h4⟩ := h
  refine ⟨cs, h1, h2, h3.dn hb hl, fun j x f hx hf => ?_⟩
  obtain ⟨A, c, e, h5⟩ := h4 j x f hx hf
  exact ⟨A, c, e, RwAt.dn h5 hb hl⟩
theorem RowT.dn {t : TypeId} {base base' c : Nat} {w : World} {A : Option Addr} {gs : List Nat} {bs : List (List UInt8)} (h : RowT t base w A c gs bs) (hb : base' ≤ base) : RowT t base' w A c gs bs :=
  ⟨own_bq h.own hb, h.nd, fun j g b hg hb' => by
    obtain ⟨h1, h2⟩ := h.at_ j g b hg hb'
    exact ⟨Nat.le_trans hb h1, h2⟩⟩
theorem FdAt.dn {base base' c3 : Nat} {w : World} {v : PV} {bs : List (List UInt8)} {B1 B2 A3 : Option Addr} {gs : List Nat} (h : FdAt base w v bs B1 B2 A3 c3 gs) (hb : base' ≤ base) : FdAt base' w v bs B1 B2 A3 c3 gs :=
  ⟨h.f.dn (Nat.le_refl _) hb, RwAt.dn h.i (Nat.le_refl _) hb, h.b.dn hb⟩
theorem set9x {w : World} {g : Nat} {t : TypeId} {y0 y1 y2 y3 y4 y5 y6 y7 y8 : Value} (h : Blk w g t #[y0, y1, y2, y3, y4, y5, y6, y7, y8]) (x0 x1 x2 x3 x4 x5 x6 x7 x8 : Value) :
    ∃ W, (((((((((w.setCell ⟨g, 0, none⟩ x0).setCell ⟨g, 1, none⟩ x1).setCell ⟨g, 2, none⟩ x2).setCell ⟨g, 3, none⟩ x3).setCell ⟨g, 4, none⟩ x4).setCell ⟨g, 5, none⟩ x5).setCell ⟨g, 6, none⟩ x6).setCell ⟨g, 7, none⟩ x7).setCell ⟨g, 8, none⟩ x8) = W ∧ Blk W g t #[x0, x1, x2, x3, x4, x5, x6, x7, x8] ∧ Kp [g] w W := ⟨_, rfl, set9 h x0 x1 x2 x3 x4 x5 x6 x7 x8⟩
set_option maxHeartbeats 4000000 in
theorem within_seg (w0 w : World) (d : Nat) (D : Dsk) (h : LD w0 w d D) (b s i a : Int) (ha64 : I64 a) (sp : SpanAt w0) :
    Calls Tryd.prog 60 #[.pointer (some ⟨d, 0, none⟩), geoV b s i, .int .i64 a] w fun r w' => WiAns D b s i a w.heap.size r w' ∧ Below w.heap.size w w' := by
  have H := hide h
  have SP := hide sp
  clear h sp
  go_enter Tryd.func60, Tryd.ntmps60
  go_upto_region 1 with fail
  obtain ⟨w1, hw⟩ : ∃ W, W = (w.alloc (.cells #[.int .i64 b, .int .i64 s, .int .i64 i] 73)).alloc (.cells zeroC 39) := ⟨_, rfl⟩
  have X4 : Hid (Blk w1 w.heap.size 73 #[.int .i64 b, .int .i64 s, .int .i64 i]) := hide (by rw [hw]; exact (Blk.new _ _ _).alloc _)
  have X6 : Hid (Blk w1 (w.heap.size + 1) 39 zeroC) := hide (by rw [hw]; have := Blk.new (w.alloc (.cells #[.int .i64 b, .int .i64 s, .int .i64 i] 73)) 39 zeroC; simpa using this)
  have BW : Hid (Below w.heap.size w w1) := hide (by rw [hw]; exact ((Below.refl _ _).alloc (Nat.le_refl _) _).alloc (by simp) _)
  have hw' := hw
  unfold zeroC fdC pv0 at hw'
  simp only [List.length_nil] at hw'
  rw [← hw']
  obtain ⟨g4, hg⟩ : ∃ g, g = w.heap.size := ⟨_, rfl⟩
  have G4 := hide hg
  rw [← hg] at X4 X6 ⊢
  clear hw hw' hg
  obtain ⟨g6, hg⟩ : ∃ g, g = g4 + 1 := ⟨_, rfl⟩
  have G6 := hide (show w.heap.size ≤ g6 by rw [hg, G4.out]; omega)
  rw [← hg] at X6 ⊢
  clear hg
  have y0 := X4.out.cell 0
  have y1 := X4.out.cell 1
  have y2 := X4.out.cell 2
  simp only [List.getElem?_toArray, List.getElem?_cons_succ, List.getElem?_cons_zero] at y0 y1 y2
  go_wp2_with fail
  clear y0 y1 y2
  by_cases hin : inSegs b s i a
  rotate_left
  · refine (left_no b s i a _ hin).mono ?_
    rintro r w2 ⟨rfl, hb⟩
    replace X6 := hide (X6.out.below hb)
    replace BW := hide (BW.out.trans (hb.mono BW.out.size))
    have HP := hide (show wiS D b s i a = (22, pv0, []) from if_neg hin)
    clear hb hin
    obtain ⟨y0, y1, y2, y3, y4, y5, y6, y7, y8⟩ := op9z X6.out
    have z := X6.out.frozen
    go_wp2_with fail
    clear y0 y1 y2 y3 y4 y5 y6 y7 y8 z
    obtain ⟨S1, S2⟩ := set9 X6.out (.int .i64 0) (.int .i64 0) (.int .i64 0) (.int .i64 0) (.int .i64 0) (.int .i64 0) (.slice none 0 0) (.slice none 0 0) (.slice none 0 0)
    refine ret_wi (g := g6) rfl rfl S1 rfl ⟨⟨none, 0, none, 0, none, 0, [], ?_, ?_⟩, Below.kp2 BW.out S2 BW.out.size (by simpa using G6.out)⟩
    · unfold wiK
      rw [HP.out]
      rfl
    · rw [HP.out]
      exact FdAt.zero
  refine (left_yes b s i a _ hin).mono ?_
  rintro r w2 ⟨rfl, hb⟩
  replace X6 := hide (X6.out.below hb)
  replace BW := hide (BW.out.trans (hb.mono BW.out.size))
  have HWS := hide (show wiS D b s i a = rdS D a from if_pos hin)
  obtain ⟨lf, hlf⟩ : ∃ l, l = s - (a - 3) % s := ⟨_, rfl⟩
  have HLF := hide hlf
  rw [← hlf]
  clear hb hin hlf X4
  have RC := hide (read_any w0 w2 d D (H.out.below BW.out) a ha64 SP.out)
  go_wp2_with fail
  refine RC.out.mono ?_
  rintro r w3 ⟨⟨B1, d1, B2, d2, A3, c3, gs, rfl, hfd⟩, hb⟩
  have FD := hide (hfd.dn (base' := w.heap.size) BW.out.size)
  replace X6 := hide (X6.out.below hb)
  have W2 := hide BW.out.size
  replace BW := hide (BW.out.trans (hb.mono BW.out.size))
  clear hfd hb RC
  have HN := hide (show (rdS D a).1 = 0 → (rdS D a).2.1.ck = 0 from fun h => by
    obtain ⟨k, sm, -, -, hE, -⟩ := rdS_inv (D := D) (a := a) (v := (rdS D a).2.1) (bs := (rdS D a).2.2) (by rw [← h])
    exact hE.1)
  obtain ⟨e, he⟩ : ∃ e, e = (rdS D a).1 := ⟨_, rfl⟩
  obtain ⟨u, hu⟩ : ∃ u, u = (rdS D a).2.1 := ⟨_, rfl⟩
  obtain ⟨bs, hbs⟩ : ∃ l, l = (rdS D a).2.2 := ⟨_, rfl⟩
  have HR := hide (show rdS D a = (e, u, bs) by rw [he, hu, hbs])
  rw [← he, ← hu] at HN
  rw [← hu, ← hbs] at FD
  rw [← he, ← hu, ← hbs]
  clear he hu hbs
  obtain ⟨a', ha'⟩ : ∃ x, x = (if e = 0 then a else 0) := ⟨_, rfl⟩
  have HA := hide ha'
  obtain ⟨n3, hn3⟩ : ∃ x, x = bs.length := ⟨_, rfl⟩
  have HN3 := hide hn3
  rw [← ha', ← hn3]
  clear ha' hn3
  unfold fdC
  go_upto_region 5 with fail
  obtain ⟨w4, hw⟩ : ∃ W, W = w3.alloc (.cells #[.int .i64 a', .int .i64 u.e, .int .i64 u.c, .int .i64 u.i, .int .i64 u.p, .int .i64 u.x, .slice B1 u.fs.length d1, .slice B2 u.is.length d2, .slice A3 n3 c3] 39) := ⟨_, rfl⟩
  have ba := (show Below w3.heap.size w3 w4 by rw [hw]; exact (Below.refl _ _).alloc (Nat.le_refl _) _)
  have X10 : Hid (Blk w4 w3.heap.size 39 #[.int .i64 a', .int .i64 u.e, .int .i64 u.c, .int .i64 u.i, .int .i64 u.p, .int .i64 u.x, .slice B1 u.fs.length d1, .slice B2 u.is.length d2, .slice A3 n3 c3]) := hide (by rw [hw]; exact Blk.new _ _ _)
  rw [← hw]
  obtain ⟨g10, hg⟩ : ∃ g, g = w3.heap.size := ⟨_, rfl⟩
  have G10 := hide (show g10 ≠ g6 by have := X6.out.lt; omega)
  rw [← hg] at X10 ⊢
  replace X6 := hide (X6.out.below ba)
  replace FD := hide (FD.out.below ba)
  replace BW := hide (BW.out.trans (ba.mono BW.out.size))
  clear hw hg ba
  have hy := op9S X10.out
  refine wp_region_noPanic ?_
  refine wp_region_held_drew (S := (fun w' => w'.cell? ⟨g10, 0, none⟩ = some (.int .i64 a') ∧ w'.cell? ⟨g10, 1, none⟩ = some (.int .i64 u.e) ∧ w'.cell? ⟨g10, 2, none⟩ = some (.int .i64 u.c) ∧ w'.cell? ⟨g10, 3, none⟩ = some (.int .i64 u.i) ∧ w'.cell? ⟨g10, 4, none⟩ = some (.int .i64 u.p) ∧ w'.cell? ⟨g10, 5, none⟩ = some (.int .i64 u.x) ∧ w'.cell? ⟨g10, 6, none⟩ = some (.slice B1 u.fs.length d1) ∧ w'.cell? ⟨g10, 7, none⟩ = some (.slice B2 u.is.length d2) ∧ w'.cell? ⟨g10, 8, none⟩ = some (.slice A3 n3 c3))) (by kernel_rfl) ?_ (fun hHeld => ?_)
  · ((try dsimp only) <;> (first | trivial | assumption | go_keep))
  clear hy
  replace X10 := hide X10.out.drew
  replace X6 := hide X6.out.drew
  replace FD := hide (FD.out.below (Below.refl _ _).drew)
  replace BW := hide (BW.out.drew)
  generalize w4.drew = w5 at *
  by_cases he : e = 0
  · have HE := hide he
    subst he
    have SB := hide (show Calls Tryd.prog 27 #[.agg #[.int .i64 u.e, .int .i64 u.c, .int .i64 u.i, .int .i64 u.p, .int .i64 u.x, .slice B1 u.fs.length d1, .slice B2 u.is.length d2]] w5 fun r w' => r = .returned (.int .i64 (u.n : Int)) ∧ Below w5.heap.size w5 w' from by
      obtain ⟨q1, q2, q3, -⟩ := PV.bd (HN.out rfl)
      exact sblocks_any u.e u.c u.i u.p u.x B1 B2 u.fs.length d1 u.is.length d2 _ _ u.fs w5 FD.out.f (by omega) (by omega) (by omega))
    obtain ⟨n, hn⟩ : ∃ n, n = u.n := ⟨_, rfl⟩
    have HUN := hide hn
    rw [← hn] at SB
    clear hn
    refine wpAnyH_take (i := 0) (v := ?_) (by simp only [List.getElem?_toArray, List.getElem?_cons_succ, List.getElem?_cons_zero]; rfl) (by kernel_rfl) (by kernel_rfl) (by kernel_rfl) (fun _ _ _ h => h) (Or.inl ⟨by rfl, ?_⟩) (by assumption) ?_
    rotate_left 1
    · (intro w hSw; (try dsimp only at hSw); go_simp; try with_reducible rfl)
    try simp only [Act.put, List.setIfInBounds_toArray, List.set_cons_zero, List.set_cons_succ]
    refine wpAnyH_take (i := 1) (v := ?_) (by simp only [List.getElem?_toArray, List.getElem?_cons_succ, List.getElem?_cons_zero]; rfl) (by kernel_rfl) (by kernel_rfl) (by kernel_rfl) (fun _ _ _ h => h) (Or.inl ⟨by rfl, ?_⟩) (by assumption) ?_
    rotate_left 1
    · (intro w hSw; (try dsimp only at hSw); go_simp; try with_reducible rfl)
    try simp only [Act.put, List.setIfInBounds_toArray, List.set_cons_zero, List.set_cons_succ]
    refine wpAnyH_take (i := 2) (v := ?_) (by simp only [List.getElem?_toArray, List.getElem?_cons_succ, List.getElem?_cons_zero]; rfl) (by kernel_rfl) (by kernel_rfl) (by kernel_rfl) (fun _ _ _ h => h) (Or.inl ⟨by rfl, ?_⟩) (by assumption) ?_
    rotate_left 1
    · (intro w hSw; (try dsimp only at hSw); go_simp; try with_reducible rfl)
    try simp only [Act.put, List.setIfInBounds_toArray, List.set_cons_zero, List.set_cons_succ]
    refine wpAnyH_take (i := 3) (v := ?_) (by simp only [List.getElem?_toArray, List.getElem?_cons_succ, List.getElem?_cons_zero]; rfl) (by kernel_rfl) (by kernel_rfl) (by kernel_rfl) (fun _ _ _ h => h) (Or.inl ⟨by rfl, ?_⟩) (by assumption) ?_
    rotate_left 1
    · (intro w hSw; (try dsimp only at hSw); go_simp; try with_reducible rfl)
    try simp only [Act.put, List.setIfInBounds_toArray, List.set_cons_zero, List.set_cons_succ]
    refine wpAnyH_take (i := 4) (v := ?_) (by simp only [List.getElem?_toArray, List.getElem?_cons_succ, List.getElem?_cons_zero]; rfl) (by kernel_rfl) (by kernel_rfl) (by kernel_rfl) (fun _ _ _ h => h) (Or.inl ⟨by rfl, ?_⟩) (by assumption) ?_
    rotate_left 1
    · (intro w hSw; (try dsimp only at hSw); go_simp; try with_reducible rfl)
    try simp only [Act.put, List.setIfInBounds_toArray, List.set_cons_zero, List.set_cons_succ]
    refine wpAnyH_take (i := 5) (v := ?_) (by simp only [List.getElem?_toArray, List.getElem?_cons_succ, List.getElem?_cons_zero]; rfl) (by kernel_rfl) (by kernel_rfl) (by kernel_rfl) (fun _ _ _ h => h) (Or.inl ⟨by rfl, ?_⟩) (by assumption) ?_
    rotate_left 1
    · (intro w hSw; (try dsimp only at hSw); go_simp; try with_reducible rfl)
    try simp only [Act.put, List.setIfInBounds_toArray, List.set_cons_zero, List.set_cons_succ]
    refine wpAnyH_take (i := 7) (v := ?_) (by simp only [List.getElem?_toArray, List.getElem?_cons_succ, List.getElem?_cons_zero]; rfl) (by kernel_rfl) (by kernel_rfl) (by kernel_rfl) (fun _ _ _ h => h) (Or.inl ⟨by rfl, ?_⟩) (by assumption) ?_
    rotate_left 1
    · (intro w hSw; (try dsimp only at hSw); go_simp; try with_reducible rfl)
    try simp only [Act.put, List.setIfInBounds_toArray, List.set_cons_zero, List.set_cons_succ]
    refine wpAnyH_ready (rs := [6]) (by kernel_rfl) (by simp) ?_
    refine AllReadyH.cons (by simp only [List.getElem?_toArray, List.getElem?_cons_succ, List.getElem?_cons_zero]; rfl) (fun K hK => ?_) ?_
    rotate_left 1
    · exact AllReadyH.nil
    go_simp
    refine SB.out.mono ?_; rintro r w6 ⟨rfl, hb⟩; replace X10 := hide (X10.out.below hb); replace X6 := hide (X6.out.below hb); replace FD := hide (FD.out.below hb); replace BW := hide (BW.out.trans (hb.mono BW.out.size)); have hy := op9S X10.out; clear hb
    refine hK.out _ _ ?_ (fun hHeld2 => ?_)
    · ((try dsimp only) <;> (first | trivial | assumption | go_keep))
    clear hHeld
    have hHeld := hHeld2
    clear hHeld2 hK K
    try simp only [Act.put, List.setIfInBounds_toArray, List.set_cons_zero, List.set_cons_succ]
    clear hHeld SB
    have hHeld := hy
    clear hy
    refine wpAnyH_take (i := 8) (v := ?_) (by simp only [List.getElem?_toArray, List.getElem?_cons_succ, List.getElem?_cons_zero]; rfl) (by kernel_rfl) (by kernel_rfl) (by kernel_rfl) (fun _ _ _ h => h) (Or.inl ⟨by rfl, ?_⟩) (by assumption) ?_
    rotate_left 1
    · (intro w hSw; (try dsimp only at hSw); go_simp; try with_reducible rfl)
    try simp only [Act.put, List.setIfInBounds_toArray, List.set_cons_zero, List.set_cons_succ]
    refine wpAnyH_take (i := 9) (v := ?_) (by simp only [List.getElem?_toArray, List.getElem?_cons_succ, List.getElem?_cons_zero]; rfl) (by kernel_rfl) (by kernel_rfl) (by kernel_rfl) (fun _ _ _ h => h) (Or.inl ⟨by rfl, ?_⟩) (by assumption) ?_
    rotate_left 1
    · (intro w hSw; (try dsimp only at hSw); go_simp; try with_reducible rfl)
    try simp only [Act.put, List.setIfInBounds_toArray, List.set_cons_zero, List.set_cons_succ]
    obtain ⟨y0, y1, y2, y3, y4, y5, y6, y7, y8⟩ := op9z X6.out
    have z := X6.out.frozen
    refine wpAnyH_ready (rs := [10]) (by kernel_rfl) (by simp) ?_
    refine AllReadyH.cons (by simp only [List.getElem?_toArray, List.getElem?_cons_succ, List.getElem?_cons_zero]; rfl) (fun K hK => ?_) ?_
    rotate_left 1
    · exact AllReadyH.nil
    go_simp
    obtain ⟨W, eW, S1, S2⟩ := set9x X6.out (.int .i64 a') (.int .i64 u.e) (.int .i64 u.c) (.int .i64 u.i) (.int .i64 u.p) (.int .i64 u.x) (.slice B1 u.fs.length d1) (.slice B2 u.is.length d2) (.slice A3 n3 c3); have BS := hide (Below.kp2 BW.out S2 BW.out.size (by simpa using G6.out)); have hy := op9S (X10.out.kp S2 (by simpa using G10.out)); rw [eW]; clear eW
    refine hK.out _ _ ?_ (fun hHeld2 => ?_)
    · ((try dsimp only) <;> (first | trivial | assumption | go_keep))
    clear hHeld
    have hHeld := hHeld2
    clear hHeld2 hK K
    try simp only [Act.put, List.setIfInBounds_toArray, List.set_cons_zero, List.set_cons_succ]
    clear y0 y1 y2 y3 y4 y5 y6 y7 y8 z
    refine wpAnyH_take (i := 11) (v := ?_) (by simp only [List.getElem?_toArray, List.getElem?_cons_succ, List.getElem?_cons_zero]; rfl) (by kernel_rfl) (by kernel_rfl) (by kernel_rfl) (fun _ _ _ h => h) (Or.inl ⟨by rfl, ?_⟩) (by assumption) ?_
    rotate_left 1
    · (intro w hSw; (try dsimp only at hSw); go_simp; try with_reducible rfl)
    try simp only [Act.put, List.setIfInBounds_toArray, List.set_cons_zero, List.set_cons_succ]
    refine wpAnyH_done (by kernel_rfl) ?_ _
    refine NoPanic.normal ?_
    clear hHeld hy
    go_wp2_with fail
    have KA := kt_box S2 X6.out (base := w.heap.size) G6.out
    have FD2 := FD.out.kt KA (by decide) (by decide) (by decide) (by decide)
    refine ret_wi (g := g6) rfl rfl S1 rfl ⟨⟨B1, d1, B2, d2, A3, c3, gs, ?_, ?_⟩, BS.out⟩
    · unfold wiK
      rw [HWS.out, HR.out, HN3.out]
      dsimp only
      rw [if_pos rfl, show a' = a from (by have := HA.out; simpa using this), ← HUN.out, ← HLF.out]
      simp [fdC]
    · rw [HWS.out, HR.out]
      exact FD2
  · have he0 : (e == 0) = false := by simpa using he
    refine wpAnyH_take (i := 0) (v := ?_) (by simp only [List.getElem?_toArray, List.getElem?_cons_succ, List.getElem?_cons_zero]; rfl) (by kernel_rfl) (by kernel_rfl) (by kernel_rfl) (fun _ _ _ h => h) (Or.inl ⟨by rfl, ?_⟩) (by assumption) ?_
    rotate_left 1
    · (intro w hSw; (try dsimp only at hSw); go_simp; try with_reducible rfl)
    try simp only [Act.put, List.setIfInBounds_toArray, List.set_cons_zero, List.set_cons_succ]
    refine wpAnyH_take (i := 1) (v := ?_) (by simp only [List.getElem?_toArray, List.getElem?_cons_succ, List.getElem?_cons_zero]; rfl) (by kernel_rfl) (by kernel_rfl) (by kernel_rfl) (fun _ _ _ h => h) (Or.inl ⟨by rfl, ?_⟩) (by assumption) ?_
    rotate_left 1
    · (intro w hSw; (try dsimp only at hSw); go_simp; try with_reducible rfl)
    try simp only [Act.put, List.setIfInBounds_toArray, List.set_cons_zero, List.set_cons_succ]
    refine wpAnyH_take (i := 2) (v := ?_) (by simp only [List.getElem?_toArray, List.getElem?_cons_succ, List.getElem?_cons_zero]; rfl) (by kernel_rfl) (by kernel_rfl) (by kernel_rfl) (fun _ _ _ h => h) (Or.inl ⟨by rfl, ?_⟩) (by assumption) ?_
    rotate_left 1
    · (intro w hSw; (try dsimp only at hSw); go_simp; try with_reducible rfl)
    try simp only [Act.put, List.setIfInBounds_toArray, List.set_cons_zero, List.set_cons_succ]
    refine wpAnyH_take (i := 3) (v := ?_) (by simp only [List.getElem?_toArray, List.getElem?_cons_succ, List.getElem?_cons_zero]; rfl) (by kernel_rfl) (by kernel_rfl) (by kernel_rfl) (fun _ _ _ h => h) (Or.inl ⟨by rfl, ?_⟩) (by assumption) ?_
    rotate_left 1
    · (intro w hSw; (try dsimp only at hSw); go_simp; try with_reducible rfl)
    try simp only [Act.put, List.setIfInBounds_toArray, List.set_cons_zero, List.set_cons_succ]
    refine wpAnyH_take (i := 4) (v := undef) (by simp only [List.getElem?_toArray, List.getElem?_cons_succ, List.getElem?_cons_zero]; rfl) (by kernel_rfl) (by kernel_rfl) (by kernel_rfl) (fun _ _ _ h => h) (Or.inr ⟨by rfl, rfl⟩) (by assumption) ?_
    try simp only [Act.put, List.setIfInBounds_toArray, List.set_cons_zero, List.set_cons_succ]
    refine wpAnyH_take (i := 5) (v := undef) (by simp only [List.getElem?_toArray, List.getElem?_cons_succ, List.getElem?_cons_zero]; rfl) (by kernel_rfl) (by kernel_rfl) (by kernel_rfl) (fun _ _ _ h => h) (Or.inr ⟨by rfl, rfl⟩) (by assumption) ?_
    try simp only [Act.put, List.setIfInBounds_toArray, List.set_cons_zero, List.set_cons_succ]
    refine wpAnyH_take (i := 6) (v := undef) (by simp only [List.getElem?_toArray, List.getElem?_cons_succ, List.getElem?_cons_zero]; rfl) (by kernel_rfl) (by kernel_rfl) (by kernel_rfl) (fun _ _ _ h => h) (Or.inr ⟨by rfl, rfl⟩) (by assumption) ?_
    try simp only [Act.put, List.setIfInBounds_toArray, List.set_cons_zero, List.set_cons_succ]
    refine wpAnyH_take (i := 7) (v := undef) (by simp only [List.getElem?_toArray, List.getElem?_cons_succ, List.getElem?_cons_zero]; rfl) (by kernel_rfl) (by kernel_rfl) (by kernel_rfl) (fun _ _ _ h => h) (Or.inr ⟨by rfl, rfl⟩) (by assumption) ?_
    try simp only [Act.put, List.setIfInBounds_toArray, List.set_cons_zero, List.set_cons_succ]
    refine wpAnyH_take (i := 8) (v := undef) (by simp only [List.getElem?_toArray, List.getElem?_cons_succ, List.getElem?_cons_zero]; rfl) (by kernel_rfl) (by kernel_rfl) (by kernel_rfl) (fun _ _ _ h => h) (Or.inr ⟨by rfl, rfl⟩) (by assumption) ?_
    try simp only [Act.put, List.setIfInBounds_toArray, List.set_cons_zero, List.set_cons_succ]
    refine wpAnyH_take (i := 9) (v := ?_) (by simp only [List.getElem?_toArray, List.getElem?_cons_succ, List.getElem?_cons_zero]; rfl) (by kernel_rfl) (by kernel_rfl) (by kernel_rfl) (fun _ _ _ h => h) (Or.inl ⟨by rfl, ?_⟩) (by assumption) ?_
    rotate_left 1
    · (intro w hSw; (try dsimp only at hSw); go_simp; try with_reducible rfl)
    try simp only [Act.put, List.setIfInBounds_toArray, List.set_cons_zero, List.set_cons_succ]
    obtain ⟨y0, y1, y2, y3, y4, y5, y6, y7, y8⟩ := op9z X6.out
    have z := X6.out.frozen
    refine wpAnyH_ready (rs := [10]) (by kernel_rfl) (by simp) ?_
    refine AllReadyH.cons (by simp only [List.getElem?_toArray, List.getElem?_cons_succ, List.getElem?_cons_zero]; rfl) (fun K hK => ?_) ?_
    rotate_left 1
    · exact AllReadyH.nil
    go_simp
    obtain ⟨W, eW, S1, S2⟩ := set9x X6.out (.int .i64 a') (.int .i64 u.e) (.int .i64 u.c) (.int .i64 u.i) (.int .i64 u.p) (.int .i64 u.x) (.slice B1 u.fs.length d1) (.slice B2 u.is.length d2) (.slice A3 n3 c3); have BS := hide (Below.kp2 BW.out S2 BW.out.size (by simpa using G6.out)); have hy := op9S (X10.out.kp S2 (by simpa using G10.out)); rw [eW]; clear eW
    refine hK.out _ _ ?_ (fun hHeld2 => ?_)
    · ((try dsimp only) <;> (first | trivial | assumption | go_keep))
    clear hHeld
    have hHeld := hHeld2
    clear hHeld2 hK K
    try simp only [Act.put, List.setIfInBounds_toArray, List.set_cons_zero, List.set_cons_succ]
    clear y0 y1 y2 y3 y4 y5 y6 y7 y8 z
    refine wpAnyH_take (i := 11) (v := ?_) (by simp only [List.getElem?_toArray, List.getElem?_cons_succ, List.getElem?_cons_zero]; rfl) (by kernel_rfl) (by kernel_rfl) (by kernel_rfl) (fun _ _ _ h => h) (Or.inl ⟨by rfl, ?_⟩) (by assumption) ?_
    rotate_left 1
    · (intro w hSw; (try dsimp only at hSw); go_simp; try with_reducible rfl)
    try simp only [Act.put, List.setIfInBounds_toArray, List.set_cons_zero, List.set_cons_succ]
    refine wpAnyH_done (by kernel_rfl) ?_ _
    refine NoPanic.normal ?_
    clear hHeld hy
    go_wp2_with fail
    have KA := kt_box S2 X6.out (base := w.heap.size) G6.out
    have FD2 := FD.out.kt KA (by decide) (by decide) (by decide) (by decide)
    refine ret_wi (g := g6) rfl rfl S1 rfl ⟨⟨B1, d1, B2, d2, A3, c3, gs, ?_, ?_⟩, BS.out⟩
    · unfold wiK
      rw [HWS.out, HR.out, HN3.out]
      dsimp only
      rw [if_neg he, show a' = 0 from HA.out.trans (if_neg he)]
      simp [he, fdC]
    · rw [HWS.out, HR.out]
      exact FD2
end Go.Proofs.YtlobkefacnedeaaDoor

/- The walk of seg.Walk. -/
namespace Go.Proofs.YtlobkefacnedeaaDoor
open Go.RowKit
set_option maxRecDepth 100000
attribute [local go_sem ↓] Go.wp_at_zero Go.wp_at_succ

theorem etyFd : EtyK Tryd.prog 76 39 (.agg zeroC) 9 120 := EtyK.mk' Tryd.underlying76 (by kernel_rfl) (by kernel_rfl) (by decide) (by decide)
/-- A row of what was found: its addresses and summaries. -/
def FdC1 (base : Nat) (w : World) (x : List Value) (p : Int × PV) : Prop := ∃ B1 d1 B2 d2 A3 n3 c3, x = (fdC p.1 p.2 B1 d1 B2 d2 A3 n3 c3).toList ∧ IntsAt base base w B2 p.2.is.length p.2.is
structure FdRow (base : Nat) (w : World) (A : Option Addr) (c : Nat) (cs : List (List Value)) (ps : List (Int × PV)) : Prop where
  len : cs.length = ps.length
  own : w.ownsRow base 39 9 (.slice A ps.length c) ps.length cs.flatten
  at_ : ∀ (j : Nat) (x : List Value) (p : Int × PV), cs[j]? = some x → ps[j]? = some p → FdC1 base w x p
theorem FdRow.kt {base c : Nat} {w w' : World} {A : Option Addr} {cs : List (List Value)} {ps : List (Int × PV)} {T : List TypeId} (h : FdRow base w A c cs ps) (hk : Kt T base w w') (h1 : 39 ∉ T) (h2 : 3 ∉ T) : FdRow base w' A c cs ps :=
  ⟨h.len, own_ktR h.own hk h1, fun j x p hx hp => by
    obtain ⟨B1, d1, B2, d2, A3, n3, c3, e, hi⟩ := h.at_ j x p hx hp
    exact ⟨B1, d1, B2, d2, A3, n3, c3, e, RwAt.kt hi hk h2⟩⟩
theorem FdRow.below {base c : Nat} {w w' : World} {A : Option Addr} {cs : List (List Value)} {ps : List (Int × PV)} (h : FdRow base w A c cs ps) (hb : Below w.heap.size w w') : FdRow base w' A c cs ps := h.kt (T := []) (Kt.of_below hb) (by simp) (by simp)
theorem FdRow.nil {base : Nat} {w : World} : FdRow base w none 0 [] [] := ⟨rfl, World.ownsRow_nil _ _ _ _, by simp⟩
/-- One more, in the row that append has left. -/
theorem FdRow.app {base c c' : Nat} {w w' : World} {A A' : Option Addr} {cs : List (List Value)} {ps : List (Int × PV)} {x : List Value} {p : Int × PV} (h : FdRow base w A c cs ps) (hx : FdC1 base w x p)
    (ho : w'.ownsRow base 39 9 (.slice A' (ps.length + 1) c') (ps.length + 1) (cs.flatten ++ x)) (hg : w.grownBy w' (Value.slice A ps.length c).ownBlock) : FdRow base w' A' c' (cs ++ [x]) (ps ++ [p]) := by
  have hk : Kt [39] base w w' := Kt.gr hg (fun g e => by
    obtain ⟨h1, cs, h2⟩ := own_blkT h.own e
    exact ⟨h1, _, cs, h2, by simp⟩)
  have hkk : ∀ (y : List Value) (q : Int × PV), FdC1 base w y q → FdC1 base w' y q := fun y q ⟨B1, d1, B2, d2, A3, n3, c3, e, hi⟩ => ⟨B1, d1, B2, d2, A3, n3, c3, e, RwAt.kt hi hk (by decide)⟩
  refine ⟨by simp [h.len], by rw [List.length_append, List.length_singleton, List.flatten_append]; simpa using ho, fun j y q hy hq => ?_⟩
  rcases Nat.lt_or_ge j cs.length with hj | hj
  · rw [List.getElem?_append_left hj] at hy
    rw [List.getElem?_append_left (by rw [← h.len]; exact hj)] at hq
    exact hkk _ _ (h.at_ j y q hy hq)
  · rw [List.getElem?_append_right hj] at hy
    rw [List.getElem?_append_right (by rw [← h.len]; exact hj), ← h.len] at hq
    have hj0 : j - cs.length = 0 := by
      have := (List.getElem?_eq_some_iff.1 hy).1
      simpa using this
    rw [hj0] at hy hq
    simp only [List.getElem?_cons_zero, Option.some.injEq] at hy hq
    subst hy hq
    exact hkk _ _ hx
/-- What a walk from a place finds. -/
def isWalk (D : Dsk) (b s i en : Int) : Int → List PV → Prop
  | a, [] => a < en → wiK D b s i a = false
  | a, v :: vs => a < en ∧ wiK D b s i a = true ∧ (∃ bs, wiS D b s i a = (0, v, bs)) ∧ isWalk D b s i en (a + v.n) vs
def adS : Int → List PV → List (Int × PV)
  | _, [] => []
  | a, v :: vs => (a, v) :: adS (a + v.n) vs
theorem adS_len : ∀ (a : Int) (vs : List PV), (adS a vs).length = vs.length
  | _, [] => rfl
  | a, v :: vs => by rw [adS, List.length_cons, List.length_cons, adS_len]
theorem WiAns.no {D : Dsk} {b s i a : Int} {base : Nat} {r : Ending} {w' : World} (hk : wiK D b s i a = false) (h : WiAns D b s i a base r w') :
    ∃ a' v B1 d1 B2 d2 A3 n3 c3, r = .returned (.tuple #[.agg (fdC a' v B1 d1 B2 d2 A3 n3 c3), .bool false]) := by
  obtain ⟨B1, d1, B2, d2, A3, c3, gs, e, -⟩ := h
  rw [hk] at e
  exact ⟨_, _, B1, d1, B2, d2, A3, _, c3, e⟩
theorem WiAns.yes {D : Dsk} {b s i a : Int} {v : PV} {bs : List (List UInt8)} {base : Nat} {r : Ending} {w' : World} (hk : wiK D b s i a = true) (hr : wiS D b s i a = (0, v, bs)) (h : WiAns D b s i a base r w') :
    ∃ B1 d1 B2 d2 A3 c3 gs, r = .returned (.tuple #[.agg (fdC a v B1 d1 B2 d2 A3 bs.length c3), .bool true]) ∧ FdAt base w' v bs B1 B2 A3 c3 gs := by
  obtain ⟨B1, d1, B2, d2, A3, c3, gs, e, hf⟩ := h
  rw [hk, hr] at e
  rw [hr] at hf
  dsimp only at e hf
  rw [if_pos rfl] at e
  exact ⟨B1, d1, B2, d2, A3, c3, gs, e, hf⟩
theorem wiS_ck {D : Dsk} {b s i a : Int} {v : PV} {bs : List (List UInt8)} (hr : wiS D b s i a = (0, v, bs)) : v.ck = 0 ∧ rdS D a = (0, v, bs) ∧ inSegs b s i a := by
  unfold wiS at hr
  split at hr
  · rename_i h
    obtain ⟨_, _, -, -, hE, -⟩ := rdS_inv hr
    exact ⟨hE.1, hr, h⟩
  · injection hr with h; cases h
def WkAns (a : Int) (vs : List PV) (base : Nat) (r : Ending) (w' : World) : Prop := ∃ A c cs, r = .returned (.slice A vs.length c) ∧ FdRow base w' A c cs (adS a vs)
theorem op3S {w : World} {k : Nat} {t : TypeId} {x0 x1 x2 : Value} (h : Blk w k t #[x0, x1, x2]) : w.cell? ⟨k, 0, none⟩ = some x0 ∧ w.cell? ⟨k, 1, none⟩ = some x1 ∧ w.cell? ⟨k, 2, none⟩ = some x2 := ⟨h.cell 0, h.cell 1, h.cell 2⟩
set_option maxHeartbeats 4000000 in
theorem walk_seg (w0 w : World) (d : Nat) (D : Dsk) (h : LD w0 w d D) (b s i k : Int) (hk0 : 0 ≤ k) (hk1 : k < segsI b s i) (hbN : b ≤ D.sure.length) (sp : SpanAt w0) (vs : List PV) (hw : isWalk D b s i (3 + k * s + s) (3 + k * s) vs) :
    Calls Tryd.prog 29 #[.pointer (some ⟨d, 0, none⟩), geoV b s i, .int .i64 k] w fun r w' => WkAns (3 + k * s) vs w.heap.size r w' ∧ Below w.heap.size w w' := by
  have H := hide h
  have SP := hide sp
  have HW := hide hw
  have GS := hide (show 8 ≤ s ∧ s ≤ 64 ∧ 0 ≤ k * s ∧ k * s ≤ 512 * 64 by
    obtain ⟨g1, g2, g3, g4, g5, g6, g7⟩ := segsI_pos (by omega : 0 < segsI b s i)
    have hbd := segsI_bd b s i
    exact ⟨g3, g4, Int.mul_nonneg hk0 (by omega), Int.mul_le_mul (by omega) g4 (by omega) (by omega)⟩)
  obtain ⟨N, hN⟩ : ∃ N, N = D.sure.length := ⟨_, rfl⟩
  have HN := hide (show N = D.sure.length ∧ N ≤ 4096 from ⟨hN, by have := h.ok.n; omega⟩)
  rw [← hN] at hbN
  clear h sp hw hN
  go_enter Tryd.func29, Tryd.ntmps29
  go_upto_region 1 with fail
  obtain ⟨w1, hw⟩ : ∃ W, W = w.alloc (.cells #[.int .i64 b, .int .i64 s, .int .i64 i] 73) := ⟨_, rfl⟩
  have X4 : Hid (Blk w1 w.heap.size 73 #[.int .i64 b, .int .i64 s, .int .i64 i]) := hide (by rw [hw]; exact Blk.new _ _ _)
  have BW : Hid (Below w.heap.size w w1) := hide (by rw [hw]; exact (Below.refl _ _).alloc (Nat.le_refl _) _)
  rw [← hw]
  obtain ⟨g4, hg⟩ : ∃ g, g = w.heap.size := ⟨_, rfl⟩
  have G4 := hide hg
  rw [← hg] at X4 ⊢
  clear hw hg
  obtain ⟨y0, y1, y2⟩ := op3S X4.out
  go_wp2_with fail
  clear y0 y1 y2
  refine (first_yes b s i k _ hk0 hk1).mono ?_
  rintro r w2 ⟨rfl, hb⟩
  replace X4 := hide (X4.out.below hb)
  replace BW := hide (BW.out.trans (hb.mono BW.out.size))
  clear hb
  obtain ⟨a0, ha0⟩ : ∃ a, a = 3 + k * s := ⟨_, rfl⟩
  have HA0 := hide (show 3 ≤ a0 ∧ a0 ≤ 40000 by have := GS.out; omega)
  rw [← ha0] at HW ⊢
  have HA00 := hide ha0
  clear ha0
  have CS : ∀ k, Calls Tryd.prog 38 #[.pointer (some ⟨d, 0, none⟩)] (w2.drewN k) fun e w' => e = .returned (.int .i64 (N : Int)) ∧ w' = w2.drewN k := fun k => by
    rw [HN.out.1]
    exact (ld_size ((H.out.below BW.out).drewN k)).mono fun _ _ h => ⟨h.1, h.2.symm⟩
  obtain ⟨y0, y1, y2⟩ := op3S X4.out
  have hbn : decide ((N : Int) < b) = false := decide_eq_false (by omega)
  go_upto_region 3 with fail
  go_quiet ((go_at_call 38; exact Calls.quiet_of_same (CS _)))
  have has : IntKind.i64.wrap (a0 + s) = a0 + s := by have := GS.out; have := HA0.out; rw [IntKind.wrap_i64]; omega
  go_upto_region 6 with fail
  clear y0 y1 y2 has hbn CS
  replace X4 := hide (X4.out.drewN nq)
  replace BW := hide (bel_dN BW.out nq)
  generalize w2.drewN nq = w3 at *
  obtain ⟨en, hen⟩ : ∃ e, e = a0 + s := ⟨_, rfl⟩
  have HEN := hide (show en ≤ a0 + 64 by rw [hen]; have := GS.out; omega)
  rw [← hen] at HW ⊢
  clear hen
  go_loopw [7, 8] (fun x y wr => ∃ (a : Int) (A : Option Addr) (n c : Nat) (cs : List (List Value)) (pre : List (Int × PV)) (rest : List PV), x = .slice A n c ∧ y = .int .i64 a ∧ n = pre.length ∧ adS a0 vs = pre ++ adS a rest ∧ isWalk D b s i en a rest ∧ 3 ≤ a ∧ a ≤ 50000 ∧ (n : Int) ≤ a ∧ FdRow w.heap.size wr A c cs pre ∧ Blk wr g4 73 #[.int .i64 b, .int .i64 s, .int .i64 i] ∧ Below w.heap.size w wr) (fun _ y _ => (en - intOf y).toNat)
  case atStart => exact ⟨a0, none, 0, 0, [], [], vs, rfl, rfl, rfl, rfl, HW.out, HA0.out.1, by have := HA0.out; omega, by have := HA0.out; omega, FdRow.nil, X4.out, BW.out⟩
  case round =>
    obtain ⟨a, A, n, c, cs, pre, rest, rfl, rfl, hn, hps, hiw, ha3, ha5, hna, hF, hX, hb⟩ := hrel
    have HN2 := hide hn
    have HPS := hide hps
    have HIW := hide hiw
    have FR := hide hF
    replace X4 := hide hX
    replace BW := hide hb
    have HAB := hide (And.intro ha3 (And.intro ha5 hna))
    clear hn hps hiw hF hX hb ha3 ha5 hna
    by_cases hlt : a < en
    rotate_left
    · cases rest with
      | nil =>
        go_wp2_with fail
        go_ret
        have e : adS a0 vs = pre := by rw [HPS.out]; simp [adS]
        have e2 : n = vs.length := by rw [HN2.out, ← e, adS_len]
        rw [← HA00.out]
        refine ⟨⟨A, c, cs, by rw [← e2]; rfl, by rw [e]; exact FR.out⟩, BW.out⟩
      | cons v vs' => exact absurd HIW.out.1 hlt
    have WC := hide (within_seg w0 wr d D (H.out.below BW.out) b s i a (by have := HAB.out; unfold I64; omega) SP.out)
    obtain ⟨y0, y1, y2⟩ := op3S X4.out
    go_wp2_with fail
    clear y0 y1 y2
    refine WC.out.mono ?_
    rintro r w4 ⟨hwa, hb⟩
    replace X4 := hide (X4.out.below hb)
    replace FR := hide (FR.out.below hb)
    have W4 := hide BW.out.size
    replace BW := hide (BW.out.trans (hb.mono BW.out.size))
    clear hb WC
    cases rest with
    | nil =>
      obtain ⟨a', v, B1, d1, B2, d2, A3, N3, c3, rfl⟩ := hwa.no (HIW.out hlt)
      unfold fdC
      go_wp2_with fail
      go_ret
      have e : adS a0 vs = pre := by rw [HPS.out]; simp [adS]
      have e2 : n = vs.length := by rw [HN2.out, ← e, adS_len]
      rw [← HA00.out]
      refine ⟨⟨A, c, cs, by rw [← e2]; rfl, by rw [e]; exact FR.out.below ((Below.refl _ _).alloc (Nat.le_refl _) _)⟩, BW.out.alloc BW.out.size _⟩
    | cons v rest =>
      obtain ⟨-, h2, ⟨bs, h3⟩, h4⟩ := HIW.out
      have HCK := hide (wiS_ck h3)
      obtain ⟨B1, d1, B2, d2, A3, c3, gs, rfl, hfd⟩ := hwa.yes h2 h3
      obtain ⟨N3, hN3⟩ : ∃ x, x = bs.length := ⟨_, rfl⟩
      rw [← hN3]
      have FD := hide (hfd.dn W4.out)
      have HI4 := hide h4
      clear hwa h2 h3 h4 hfd hN3
      unfold fdC
      go_upto_region 9 with fail
      obtain ⟨w5, hw⟩ : ∃ W, W = w4.alloc (.cells #[.int .i64 a, .int .i64 v.e, .int .i64 v.c, .int .i64 v.i, .int .i64 v.p, .int .i64 v.x, .slice B1 v.fs.length d1, .slice B2 v.is.length d2, .slice A3 N3 c3] 39) := ⟨_, rfl⟩
      have ba := (show Below w4.heap.size w4 w5 by rw [hw]; exact (Below.refl _ _).alloc (Nat.le_refl _) _)
      have X11 : Hid (Blk w5 w4.heap.size 39 #[.int .i64 a, .int .i64 v.e, .int .i64 v.c, .int .i64 v.i, .int .i64 v.p, .int .i64 v.x, .slice B1 v.fs.length d1, .slice B2 v.is.length d2, .slice A3 N3 c3]) := hide (by rw [hw]; exact Blk.new _ _ _)
      rw [← hw]
      obtain ⟨g11, hg⟩ : ∃ g, g = w4.heap.size := ⟨_, rfl⟩
      have G11 := hide (show w.heap.size ≤ g11 by rw [hg]; exact BW.out.size)
      rw [← hg] at X11 ⊢
      have hfo : ∀ g, (Value.slice A n c).ownBlock = some g → g ≠ g11 := fun g hg' => by
        rw [HN2.out] at hg'
        have := (FR.out.own.lt g hg').2
        omega
      have HFO := hide hfo
      replace X4 := hide (X4.out.below ba)
      replace FR := hide (FR.out.below ba)
      replace FD := hide (FD.out.below ba)
      replace BW := hide (BW.out.trans (ba.mono BW.out.size))
      clear hw hg ba hfo
      obtain ⟨x0, x1, x2, x3, x4, x5, x6, x7, x8⟩ := op9S X11.out
      have O := hide FR.out.own
      rw [← HN2.out] at O
      have hn100 : n ≤ 100000 := by have := HAB.out; omega
      go_wp2_with (
        at_builtin
        refine wpList_appK rfl (.tmp 44) (.tmp 46) _ rfl etyFd w.heap.size (.slice A n c) n _ rfl (own_bel O.out ((Below.refl _ _).alloc (Nat.le_refl _) (.cells #[.int .i64 a, .int .i64 v.e, .int .i64 v.c, .int .i64 v.i, .int .i64 v.p, .int .i64 v.x, .slice B1 v.fs.length d1, .slice B2 v.is.length d2, .slice A3 N3 c3] 39))) (w5.heap.size + 1) (some ⟨w5.heap.size, 0, none⟩) 1 1 (#[.int .i64 a, .int .i64 v.e, .int .i64 v.c, .int .i64 v.i, .int .i64 v.p, .int .i64 v.x, .slice B1 v.fs.length d1, .slice B2 v.is.length d2, .slice A3 N3 c3] : Array Value).toList rfl (slc_new w5 _ _ rfl) (by intro u hu; simp only [List.mem_cons, List.not_mem_nil, or_false] at hu; rcases hu with rfl | rfl | rfl | rfl | rfl | rfl | rfl | rfl | rfl <;> rfl) (by omega) (Nat.le_trans BW.out.size (by simp)) ?_
        intro A6 c6 w6 ho hg ha
        have ba := (Below.refl w5.heap.size w5).alloc (Nat.le_refl _) (.cells #[.int .i64 a, .int .i64 v.e, .int .i64 v.c, .int .i64 v.i, .int .i64 v.p, .int .i64 v.x, .slice B1 v.fs.length d1, .slice B2 v.is.length d2, .slice A3 N3 c3] 39)
        have OO := own_bel O.out ba
        have K6 := Kt.gr (base := w.heap.size) (T := [39]) hg (fun g e => by
          obtain ⟨h1, cs, h2⟩ := own_blkT OO e
          exact ⟨h1, _, cs, h2, by simp⟩)
        have FD2 := (FD.out.below ba)
        have FR2 : Hid (∃ cs', FdRow w.heap.size w6 A6 c6 cs' (pre ++ [(a, v)])) := hide ⟨_, FdRow.app (FR.out.below ba) (x := (#[.int .i64 a, .int .i64 v.e, .int .i64 v.c, .int .i64 v.i, .int .i64 v.p, .int .i64 v.x, .slice B1 v.fs.length d1, .slice B2 v.is.length d2, .slice A3 N3 c3] : Array Value).toList) (p := (a, v)) ⟨B1, d1, B2, d2, A3, N3, c3, rfl, FD2.i⟩ (by rw [← HN2.out]; exact ho) (by rw [← HN2.out]; exact hg)⟩
        have X4' := hide (Blk.kt (X4.out.below ba) K6 (by decide))
        have X11' := hide (blk_gr (X11.out.below ba) hg (fun e => HFO.out g11 e.symm rfl))
        have FF2 := hide (FD2.f.kt K6 (by decide) (by decide))
        have BW' := hide ((BW.out.trans (ba.mono BW.out.size)).trans (K6.below (Nat.le_trans BW.out.size ba.size)))
        clear ho hg ha ba OO K6 FD2
        obtain ⟨z0, z1, z2, z3, z4, z5, z6, z7, z8⟩ := op9S X11'.out)
      have SB := hide (show Calls Tryd.prog 27 #[.agg #[.int .i64 v.e, .int .i64 v.c, .int .i64 v.i, .int .i64 v.p, .int .i64 v.x, .slice B1 v.fs.length d1, .slice B2 v.is.length d2]] w6 fun r w' => r = .returned (.int .i64 (v.n : Int)) ∧ Below w6.heap.size w6 w' from by
        obtain ⟨q1, q2, q3, -⟩ := PV.bd HCK.out.1
        exact sblocks_any v.e v.c v.i v.p v.x B1 B2 v.fs.length d1 v.is.length d2 _ _ v.fs w6 FF2.out (by omega) (by omega) (by omega))
      have hvn := PV.n_bd HCK.out.1
      obtain ⟨m, hm⟩ : ∃ m, m = v.n := ⟨_, rfl⟩
      have HM := hide hm
      rw [← hm] at SB hvn HI4
      clear hm x0 x1 x2 x3 x4 x5 x6 x7 x8 z0 z1 z2 z3 z4 z5 z6 z7 z8
      refine SB.out.mono ?_
      rintro r w7 ⟨rfl, hb⟩
      replace X4 := hide (X4'.out.below hb)
      obtain ⟨cs', hf6⟩ := FR2.out
      replace FR := hide (hf6.below hb)
      clear hf6
      replace BW := hide (BW'.out.trans (hb.mono BW'.out.size))
      have ham : IntKind.i64.wrap (a + (m : Int)) = a + m := by have := HAB.out; rw [IntKind.wrap_i64]; omega
      clear hb SB X4' FR2 BW' FF2
      go_wp2_with fail
      go_roundw
      case rel =>
        refine ⟨a + m, A6, n + 1, c6, cs', pre ++ [(a, v)], rest, rfl, by go_num, by rw [List.length_append, HN2.out]; rfl, ?_, HI4.out, by have := HAB.out; omega, by have := HEN.out; have := HA0.out; omega, by have := HAB.out; omega, ?_, X4.out, BW.out⟩
        · rw [HPS.out, adS, List.append_assoc, HM.out]
          rfl
        · exact FR.out
      case measure => simp [intOf]; omega
end Go.Proofs.YtlobkefacnedeaaDoor

/- Partial segments that stand one behind the other: the plain law. No program in sight. -/
namespace Go.Proofs.YtlobkefacnedeaaDoor
open Go.RowKit
set_option maxRecDepth 100000

/-- A partial segment stands there. -/
def stands (D : Dsk) (a : Nat) (v : PV) : Prop :=
  v.ck = 0 ∧ ∃ bs : List (List UInt8), bs.length = v.n - 2 ∧ D.read a = (v.enc (crc bs.flatten)).take 64 ∧ D.read (a + 1) = (v.enc (crc bs.flatten)).drop 64 ∧ ∀ j, j < v.n - 2 → D.read (a + 2 + j) = bs.getD j []
theorem stands.rd {D : Dsk} {a : Nat} {v : PV} (h : stands D a v) (hl : a + v.n ≤ D.sure.length) : ∃ bs, rdS D (a : Int) = (0, v, bs) := by
  obtain ⟨h1, bs, h2, h3, h4, h5⟩ := h
  exact ⟨bs, rdS_wrS (D := D) h1 h2 hl h3 h4 h5⟩
theorem stands.same {D E : Dsk} {a : Nat} {v : PV} (h : stands D a v) (he : ∀ j, a ≤ j → j < a + v.n → E.read j = D.read j) : stands E a v := by
  obtain ⟨h1, bs, h2, h3, h4, h5⟩ := h
  have hv := PV.n_bd h1
  exact ⟨h1, bs, h2, by rw [he _ (by omega) (by omega)]; exact h3, by rw [he _ (by omega) (by omega)]; exact h4, fun j hj => by rw [he _ (by omega) (by omega)]; exact h5 j hj⟩
/-- Behind a write it stands there. -/
theorem wrS_stands {D : Dsk} (h : D.left < 0) (hq : ∀ x ∈ D.queue, x.1 < D.sure.length) {a x : Nat} {v : PV} {bs : List (List UInt8)} (hx : v.x = (x : Int)) (hck : v.ck = 0) (hn : bs.length = v.n - 2) (ha : a + v.n ≤ D.sure.length) (hx2 : x + 2 ≤ D.sure.length) (hd : a + v.n ≤ x ∨ x + 2 ≤ a) (hb : ∀ b ∈ bs, b.length = 64) :
    stands (wrS D (a : Int) v bs).2 a v := by
  have hv := PV.n_bd hck
  obtain ⟨-, -, -, hr⟩ := wrS_ok h hq hx hck hn ha hx2 hd hb
  refine ⟨hck, bs, hn, by rw [hr, if_pos rfl], by rw [hr, if_neg (by omega), if_pos rfl], fun j hj => ?_⟩
  rw [hr, if_neg (by omega), if_neg (by omega), if_pos (by omega)]
  congr 1
  omega
/-- How far a row of them reaches. -/
def tot : List PV → Nat
  | [] => 0
  | v :: vs => v.n + tot vs
theorem tot_snoc : ∀ (vs : List PV) (v : PV), tot (vs ++ [v]) = tot vs + v.n
  | [], v => by simp [tot]
  | u :: vs, v => by rw [List.cons_append, tot, tot, tot_snoc vs v]; omega
/-- They stand one behind the other from a place on; behind them, below m, are zeros. -/
def chn (D : Dsk) (m : Nat) : Nat → List PV → Prop
  | a, [] => ∀ j, a ≤ j → j < m → D.read j = zero64
  | a, v :: vs => stands D a v ∧ chn D m (a + v.n) vs
theorem chn_snoc {D E : Dsk} {m : Nat} : ∀ (a : Nat) (vs : List PV) (v : PV), chn D m a vs → stands E (a + tot vs) v → (∀ j, a ≤ j → j < a + tot vs → E.read j = D.read j) → (∀ j, a + tot vs + v.n ≤ j → j < m → E.read j = zero64) → chn E m a (vs ++ [v])
  | a, [], v, _, hs, _, hz => ⟨by simpa [tot] using hs, fun j h1 h2 => hz j (by simp [tot]; omega) h2⟩
  | a, u :: vs, v, h, hs, he, hz => by
    obtain ⟨h1, h2⟩ := h
    simp only [tot] at hs he hz
    refine ⟨h1.same (fun j h3 h4 => he j h3 (by omega)), chn_snoc (a + u.n) vs v h2 (by rw [show a + u.n + tot vs = a + (u.n + tot vs) by omega]; exact hs) (fun j h3 h4 => he j (by omega) (by omega)) (fun j h3 h4 => hz j (by omega) h4)⟩
theorem chn_zero {D : Dsk} {m : Nat} : ∀ (a : Nat) (vs : List PV), chn D m a vs → ∀ j, a + tot vs ≤ j → j < m → D.read j = zero64
  | a, [], h, j, h1, h2 => h j (by simpa [tot] using h1) h2
  | a, u :: vs, h, j, h1, h2 => chn_zero (a + u.n) vs h.2 j (by simp only [tot] at h1; omega) h2
theorem rdS_zero {D : Dsk} {a : Nat} (h0 : D.read a = zero64) (h1 : D.read (a + 1) = zero64) : rdS D (a : Int) = (100, pv0, []) := rdS_none (by rw [h0, h1]; exact zero_no)
theorem segs200 : segsI 200 32 9 = 6 := by decide
theorem in200 {k a : Nat} (hk : k < 6) (h0 : 3 + 32 * k ≤ a) (h1 : a < 3 + 32 * k + 32) : inSegs 200 32 9 (a : Int) ∧ ((a : Int) - 3) % 32 = ((a - (3 + 32 * k) : Nat) : Int) := by
  unfold inSegs
  rw [segs200]
  omega
/-- So they are walked. -/
theorem chn_walk {D : Dsk} (hl : D.sure.length = 200) {k : Nat} (hk : k < 6) : ∀ (a : Nat) (vs : List PV), chn D 200 a vs → 3 + 32 * k ≤ a → a + tot vs ≤ 3 + 32 * k + 32 → isWalk D 200 32 9 ((3 + 32 * k + 32 : Nat) : Int) (a : Int) vs
  | a, [], h, h0, h1 => fun hlt => by
    obtain ⟨h2, -⟩ := in200 hk h0 (by omega)
    unfold wiK wiS
    rw [if_pos h2, rdS_zero (h a (Nat.le_refl _) (by omega)) (h (a + 1) (by omega) (by omega))]
    rfl
  | a, v :: vs, h, h0, h1 => by
    obtain ⟨h2, h3⟩ := h
    simp only [tot] at h1
    have hv := PV.n_bd h2.1
    obtain ⟨bs, hr⟩ := h2.rd (by rw [hl]; omega)
    obtain ⟨g1, g2⟩ := in200 hk h0 (by omega)
    have hw : wiS D 200 32 9 (a : Int) = (0, v, bs) := by unfold wiS; rw [if_pos g1, hr]
    refine ⟨by omega, ?_, ⟨bs, hw⟩, ?_⟩
    · unfold wiK
      rw [hw]
      exact decide_eq_true ⟨rfl, by rw [g2]; dsimp only; omega⟩
    · have := chn_walk hl hk (a + v.n) vs h3 (by omega) (by omega)
      rw [Int.natCast_add] at this
      exact this
/-- The pieces of SegRows. -/
def upTo (n : Nat) : List Int := (List.range n).map fun j => ((j + 1 : Nat) : Int)
theorem upTo_len (n : Nat) : (upTo n).length = n := by simp [upTo]
theorem upTo_succ (n : Nat) : upTo (n + 1) = upTo n ++ [((n + 1 : Nat) : Int)] := by simp [upTo, List.range_succ]
def rwV (i n x : Nat) : PV := ⟨1, (i : Int), 0, 1, (x : Int), [], upTo n⟩
theorem rwV_n (i n x : Nat) : (rwV i n x).n = n + 2 := by
  show 2 + (upTo n).length + 0 = _
  rw [upTo_len]
  omega
theorem rwV_ck {i n x : Nat} (hi : i < 20) (hn : n ≤ 6) (hx : x < 200) : (rwV i n x).ck = 0 := by
  have hg : gdP 1 (i : Int) 0 1 (x : Int) [] (upTo n) := by
    refine ⟨?_, by simp, fun y hy => ?_⟩
    · unfold gdH
      omega
    · simp only [upTo, List.mem_map, List.mem_range] at hy
      obtain ⟨j, hj, rfl⟩ := hy
      omega
  show checkP 1 (i : Int) 0 1 (x : Int) [] (upTo n) = 0
  unfold checkP
  rw [if_pos hg, if_neg]
  simp only [szN, upTo_len, show lsN [] = 0 from rfl, List.length_nil]
  omega
/-- Where the zeros are put. -/
def nxR (at_ n : Nat) : Nat := (at_ + n + 2) % 190
theorem nxR_ok {k at_ n : Nat} (hk : k < 6) (h0 : 3 + 32 * k ≤ at_) (h1 : at_ + n + 2 ≤ 3 + 32 * k + 32) : (nxR at_ n = at_ + n + 2 ∧ nxR at_ n < 190) ∨ (k = 5 ∧ nxR at_ n ≤ 5) := by
  unfold nxR
  omega
/-- One piece more. -/
theorem rows_step {D : Dsk} (hL : D.left < 0) (hq : ∀ x ∈ D.queue, x.1 < D.sure.length) (hl : D.sure.length = 200) {k : Nat} (hk : k < 6) {vs : List PV} (hc : chn D 200 (3 + 32 * k) vs) {i n : Nat} (hi : i < 20) (hn : n ≤ 6) (ht : 3 + 32 * k + tot vs + n + 2 ≤ 3 + 32 * k + 32) {bs : List (List UInt8)} (hb : bs.length = n) (h64 : ∀ b ∈ bs, b.length = 64) :
    (wrS D ((3 + 32 * k + tot vs : Nat) : Int) (rwV i n (nxR (3 + 32 * k + tot vs) n)) bs).1 = 0 ∧ (wrS D ((3 + 32 * k + tot vs : Nat) : Int) (rwV i n (nxR (3 + 32 * k + tot vs) n)) bs).2.left < 0 ∧ (wrS D ((3 + 32 * k + tot vs : Nat) : Int) (rwV i n (nxR (3 + 32 * k + tot vs) n)) bs).2.queue = [] ∧
      chn (wrS D ((3 + 32 * k + tot vs : Nat) : Int) (rwV i n (nxR (3 + 32 * k + tot vs) n)) bs).2 200 (3 + 32 * k) (vs ++ [rwV i n (nxR (3 + 32 * k + tot vs) n)]) := by
  obtain ⟨a, ha⟩ : ∃ a, a = 3 + 32 * k + tot vs := ⟨_, rfl⟩
  rw [← ha]
  have hx := nxR_ok (n := n) hk (show 3 + 32 * k ≤ a by omega) (by omega)
  obtain ⟨x, hx0⟩ : ∃ x, x = nxR a n := ⟨_, rfl⟩
  rw [← hx0] at hx ⊢
  have hvn := rwV_n i n x
  have hck := rwV_ck (x := x) hi hn (by omega)
  have h1 := wrS_ok hL hq (a := a) (x := x) (v := rwV i n x) (bs := bs) rfl hck (by rw [hvn, hb]; omega) (by rw [hvn, hl]; omega) (by rw [hl]; omega) (by rw [hvn]; omega) h64
  have h2 := wrS_stands hL hq (a := a) (x := x) (v := rwV i n x) (bs := bs) rfl hck (by rw [hvn, hb]; omega) (by rw [hvn, hl]; omega) (by rw [hl]; omega) (by rw [hvn]; omega) h64
  obtain ⟨e1, e2, e3, hr⟩ := h1
  refine ⟨e1, e2, e3, chn_snoc _ _ _ hc (by rw [← ha]; exact h2) (fun j h3 h4 => ?_) (fun j h3 h4 => ?_)⟩
  · rw [hr, if_neg (by omega), if_neg (by omega), if_neg (by omega), if_neg (by omega)]
  · rw [hvn] at h3
    rw [hr, hvn, if_neg (by omega), if_neg (by omega), if_neg (by omega)]
    by_cases e : j = x ∨ j = x + 1
    · rw [if_pos e]
    · rw [if_neg e]
      exact chn_zero _ _ hc j (by omega) h4
theorem andS_bd (r : Int × Dsk) (f : Dsk → Int × Dsk) (k q : Nat) (h : ∀ D, (f D).2.steps ≤ D.steps + k ∧ (f D).2.queue.length ≤ D.queue.length + q) : (andS r f).2.steps ≤ r.2.steps + k ∧ (andS r f).2.queue.length ≤ r.2.queue.length + q := by
  unfold andS
  split
  · exact h _
  · omega
theorem wrS_bd (D : Dsk) (a : Int) (v : PV) (bs : List (List UInt8)) : (wrS D a v bs).2.steps ≤ D.steps + bs.length + 6 ∧ (wrS D a v bs).2.queue.length ≤ D.queue.length + bs.length + 4 := by
  unfold wrS
  split
  · exact ⟨by show D.steps ≤ _; omega, by show D.queue.length ≤ _; omega⟩
  · split
    · exact ⟨by show D.steps ≤ _; omega, by show D.queue.length ≤ _; omega⟩
    · split
      · exact ⟨by show D.steps ≤ _; omega, by show D.queue.length ≤ _; omega⟩
      · have h1 := putS_bd bs D (a.toNat + 2)
        have h2 := andS_bd (putS D (a.toNat + 2) bs) (fun D => andS (clrS D v.x) fun D => andS (putS D a.toNat [(v.enc (crc bs.flatten)).take 64, (v.enc (crc bs.flatten)).drop 64]) barS) 6 4 (fun D => by
          have h3 := clrS_bd D v.x
          have h4 := andS_bd (clrS D v.x) (fun D => andS (putS D a.toNat [(v.enc (crc bs.flatten)).take 64, (v.enc (crc bs.flatten)).drop 64]) barS) 3 2 (fun D => by
            have h5 := putS_bd [(v.enc (crc bs.flatten)).take 64, (v.enc (crc bs.flatten)).drop 64] D a.toNat
            have h6 := andS_bd (putS D a.toNat [(v.enc (crc bs.flatten)).take 64, (v.enc (crc bs.flatten)).drop 64]) barS 1 0 (fun D => barS_bd D)
            simp only [List.length_cons, List.length_nil] at h5
            omega)
          omega)
        omega
theorem chn_fresh (m a : Nat) : chn (freshD m) m a [] := fun j _ h => fresh_read m j h
theorem adS_get : ∀ (a : Int) (vs : List PV) (j : Nat) (p : Int × PV), (adS a vs)[j]? = some p → vs[j]? = some p.2
  | _, [], j, p, h => by simp [adS] at h
  | a, v :: vs, 0, p, h => by
    simp only [adS, List.getElem?_cons_zero, Option.some.injEq] at h ⊢
    rw [← h]
  | a, v :: vs, j + 1, p, h => by
    simp only [adS, List.getElem?_cons_succ] at h ⊢
    exact adS_get _ vs j p h
theorem adS_snoc : ∀ (a : Int) (vs : List PV) (v : PV), adS a (vs ++ [v]) = adS a vs ++ [(a + (tot vs : Nat), v)]
  | a, [], v => by simp [adS, tot]
  | a, u :: vs, v => by
    rw [List.cons_append, adS, adS, adS_snoc (a + u.n) vs v, List.cons_append, tot]
    congr 4
    omega
end Go.Proofs.YtlobkefacnedeaaDoor

/- The walk of marllaw15.SegRows. -/
namespace Go.Proofs.YtlobkefacnedeaaDoor
open Go.RowKit
set_option maxRecDepth 100000
attribute [local go_sem ↓] Go.wp_at_zero Go.wp_at_succ

/-- What holds while pieces are written. -/
structure RwI (w2 wr : World) (d a0 i at_ : Nat) (A' : Option Addr) (c' : Nat) (vs : List PV) (D : Dsk) : Prop where
  i20 : i ≤ 20
  at_ : at_ = a0 + tot vs
  tl : tot vs ≤ 32
  len : vs.length = i
  cnt : ∀ (j : Nat) (v : PV), vs[j]? = some v → v.c = (j : Int)
  ld : LD w2 wr d D
  left : D.left < 0
  q : D.queue = []
  n : D.sure.length = 200
  s : D.steps ≤ 20 * i
  ch : chn D 200 a0 vs
  own : wr.ownsRow w2.heap.size 3 1 (.slice A' i c') i (intC ((adS (a0 : Int) vs).map (·.1)))
theorem RwI.below {w2 w w' : World} {d a0 i at_ : Nat} {A' : Option Addr} {c' : Nat} {vs : List PV} {D : Dsk} (h : RwI w2 w d a0 i at_ A' c' vs D) (hb : Below w.heap.size w w') : RwI w2 w' d a0 i at_ A' c' vs D :=
  { h with ld := h.ld.below hb, own := own_bel h.own hb }
theorem FdRow.at {base c j : Nat} {w : World} {A : Option Addr} {cs : List (List Value)} {ps : List (Int × PV)} {p : Int × PV} (h : FdRow base w A c cs ps) (hp : ps[j]? = some p) :
    ∃ g, A = some ⟨g, 0, none⟩ ∧ w.cell? ⟨g, j * 9, none⟩ = some (.int .i64 p.1) ∧ w.cell? ⟨g, j * 9 + 1, none⟩ = some (.int .i64 p.2.e) ∧ w.cell? ⟨g, j * 9 + 2, none⟩ = some (.int .i64 p.2.c) ∧ w.cell? ⟨g, j * 9 + 3, none⟩ = some (.int .i64 p.2.i) ∧ w.cell? ⟨g, j * 9 + 4, none⟩ = some (.int .i64 p.2.p) ∧
      ∃ B2 d2, w.cell? ⟨g, j * 9 + 7, none⟩ = some (.slice B2 p.2.is.length d2) ∧ IntsAt base base w B2 p.2.is.length p.2.is := by
  have hj := (List.getElem?_eq_some_iff.1 hp).1
  have hl := h.len
  have hx : cs[j]? = some (cs[j]'(by omega)) := List.getElem?_eq_getElem _
  have hall : ∀ x ∈ cs, x.length = 9 := fun x hm => by
    obtain ⟨i, hi, e⟩ := List.getElem_of_mem hm
    obtain ⟨B1, d1, B2, d2, A3, n3, c3, e2, -⟩ := h.at_ i x (ps[i]'(by omega)) (by rw [List.getElem?_eq_getElem hi, e]) (List.getElem?_eq_getElem _)
    rw [e2]; rfl
  obtain ⟨B1, d1, B2, d2, A3, n3, c3, e, hi⟩ := h.at_ j _ p hx hp
  have hcell : ∀ t u, t < 9 → (cs[j]'(by omega))[t]? = some u → cs.flatten[j * 9 + t]? = some u := fun t u ht hu => by
    rw [flatten_getR cs hall j t ht, hx]
    exact hu
  rcases h.own.2 with ⟨-, h0⟩ | ⟨g, cap, cur, hv, -, hB, -, -, -, ht⟩
  · omega
  · injection hv with hv
    have hc : ∀ t u, t < 9 → (cs[j]'(by omega))[t]? = some u → w.cell? ⟨g, j * 9 + t, none⟩ = some u := fun t u h1 h2 => by
      have h3 := hcell t u h1 h2
      rw [← ht, List.getElem?_take] at h3
      split at h3
      · have hB' : Blk w g 39 cur := hB
        rw [hB'.cell]
        simpa using h3
      · cases h3
    exact ⟨g, hv, hc 0 _ (by decide) (by rw [e]; rfl), hc 1 _ (by decide) (by rw [e]; rfl), hc 2 _ (by decide) (by rw [e]; rfl), hc 3 _ (by decide) (by rw [e]; rfl), hc 4 _ (by decide) (by rw [e]; rfl), B2, d2, hc 7 _ (by decide) (by rw [e]; rfl), hi⟩
theorem adS_some : ∀ (a : Int) (vs : List PV) (j : Nat), j < vs.length → ∃ p, (adS a vs)[j]? = some p := fun a vs j h => ⟨(adS a vs)[j]'(by rw [adS_len]; exact h), List.getElem?_eq_getElem _⟩
/-- One piece more. -/
theorem RwI.step {w2 wd w' : World} {d a0 i at_ kk n x : Nat} {A' A2 : Option Addr} {c' c2 : Nat} {vs : List PV} {D : Dsk} {bs : List (List UInt8)} {R : Int × Dsk} (h : RwI w2 wd d a0 i at_ A' c' vs D) (hR : R = wrS D (at_ : Int) (rwV i n x) bs) (ha : a0 = 3 + 32 * kk) (hk : kk < 6) (hx : x = nxR at_ n) (hi : i < 20) (hn : n ≤ 6) (ht : at_ + n + 2 ≤ a0 + 32) (hb : bs.length = n) (h64 : ∀ b ∈ bs, b.length = 64) :
    R.1 = 0 ∧ (LD w2 w' d R.2 → w'.ownsRow w2.heap.size 3 1 (.slice A2 (i + 1) c2) (i + 1) (intC ((adS (a0 : Int) vs).map (·.1)) ++ [.int .i64 (at_ : Int)]) → RwI w2 w' d a0 (i + 1) (at_ + (n + 2)) A2 c2 (vs ++ [rwV i n x]) R.2) := by
  have h1 := rows_step h.left (by rw [h.q]; simp) h.n hk (by rw [← ha]; exact h.ch) hi hn (by have := h.at_; omega) hb h64
  rw [← ha, ← h.at_, ← hx, ← hR] at h1
  obtain ⟨e1, e2, e3, e4⟩ := h1
  refine ⟨e1, fun hl ho => ⟨by omega, ?_, ?_, by rw [List.length_append, h.len]; rfl, fun j v hv => ?_, hl, e2, e3, ?_, ?_, e4, ?_⟩⟩
  · rw [tot_snoc, rwV_n, h.at_]; omega
  · rw [tot_snoc, rwV_n]; have := h.at_; omega
  · rcases Nat.lt_or_ge j vs.length with hj | hj
    · rw [List.getElem?_append_left hj] at hv
      exact h.cnt j v hv
    · rw [List.getElem?_append_right hj] at hv
      have hj0 : j - vs.length = 0 := by
        have := (List.getElem?_eq_some_iff.1 hv).1
        simpa using this
      rw [hj0] at hv
      simp only [List.getElem?_cons_zero, Option.some.injEq] at hv
      subst hv
      have := h.len
      show (i : Int) = (j : Int)
      omega
  · rw [hR, wrS_len]; exact h.n
  · have := (wrS_bd D (at_ : Int) (rwV i n x) bs).1
    have := h.s
    rw [hR]
    omega
  · rw [adS_snoc, List.map_append]
    have e : (a0 : Int) + (tot vs : Nat) = (at_ : Int) := by have := h.at_; omega
    simp only [List.map_cons, List.map_nil, e]
    rw [← intC_app]
    exact ho
set_option maxHeartbeats 8000000 in
theorem rows_law (A : Option Addr) (m c : Nat) (data : List UInt8) (k : Int) (w : World) (sp : SpanAt w) (hd : By w w.heap.size A m data) (hm : m ≤ 9223372036854775807) :
    Calls Tryd.prog 7 #[.slice A m c, .int .i64 k] w fun r w' => r = .returned (.bool true) ∧ Below w.heap.size w w' := by
  have SP := hide sp
  have HD := hide hd
  obtain ⟨kk, hkk, hk6⟩ := modU k 6 (by decide) (by decide)
  have HK6 : kk < 6 := by omega
  clear sp hd hk6
  go_enter Tryd.func7, Tryd.ntmps7
  go_wp2_with fail
  refine (awake15 w SP.out).mono ?_
  rintro r w1 ⟨rfl, hb⟩
  have BW := hide hb
  clear hb
  go_upto_region 4 with fail
  obtain ⟨w2, hw⟩ : ∃ W, W = w1.alloc (.cells #[.int .i64 200, .int .i64 32, .int .i64 9] 73) := ⟨_, rfl⟩
  have ba := (show Below w1.heap.size w1 w2 by rw [hw]; exact (Below.refl _ _).alloc (Nat.le_refl _) _)
  have X5 : Hid (Blk w2 w1.heap.size 73 #[.int .i64 200, .int .i64 32, .int .i64 9]) := hide (by rw [hw]; exact Blk.new _ _ _)
  rw [← hw]
  obtain ⟨g5, hg⟩ : ∃ g, g = w1.heap.size := ⟨_, rfl⟩
  rw [← hg] at X5 ⊢
  replace BW := hide (BW.out.trans (ba.mono BW.out.size))
  replace SP := hide (SP.out.bel BW.out)
  replace HD := hide ((HD.out.below BW.out).more BW.out.size)
  have X52 := hide X5.out
  clear hw hg ba
  go_wp2_with fail
  refine (ld_new w2 200 (by decide) (by decide)).mono ?_
  rintro r w3 ⟨d, rfl, hl⟩
  have L := hide hl
  clear hl
  replace X5 := hide (show Blk w3 g5 73 #[.int .i64 200, .int .i64 32, .int .i64 9] from X5.out.below L.out.bel)
  obtain ⟨y0, y1, y2⟩ := op3S X5.out
  go_wp2_with fail
  clear y0 y1 y2
  refine (first_yes 200 32 9 (kk : Int) _ (by omega) (by rw [segs200]; omega)).mono ?_
  rintro r w4 ⟨rfl, hb⟩
  replace X5 := hide (X5.out.below hb)
  replace L := hide (L.out.below hb)
  clear hb
  obtain ⟨a0, ha0⟩ : ∃ a : Nat, a = 3 + 32 * kk := ⟨_, rfl⟩
  have HA0 := hide ha0
  have hac : (3 : Int) + (kk : Int) * 32 = (a0 : Int) := by omega
  rw [hac]
  obtain ⟨en, hen⟩ : ∃ e : Nat, e = a0 + 32 := ⟨_, rfl⟩
  have HEN := hide hen
  have hae : IntKind.i64.wrap ((a0 : Int) + 32) = (en : Int) := by rw [IntKind.wrap_i64]; omega
  clear ha0 hac hen
  go_wp2_with fail
  clear hae
  go_loopw [8, 10, 11] (fun x y z wr => ∃ (i at_ : Nat) (A' : Option Addr) (c' : Nat) (vs : List PV) (D : Dsk), x = .int .i64 (at_ : Int) ∧ y = .slice A' i c' ∧ z = .int .i64 (i : Int) ∧ RwI w2 wr d a0 i at_ A' c' vs D) (fun _ _ z _ => 20 - (intOf z).toNat)
  case atStart => exact ⟨0, a0, none, 0, [], freshD 200, rfl, rfl, rfl, ⟨by omega, rfl, by decide, rfl, by simp, L.out, fresh_l _, rfl, fresh_len _, Nat.zero_le _, chn_fresh _ _, World.ownsRow_nil _ _ _ _⟩⟩
  case round =>
    clear L
    obtain ⟨i, at_, A', c', vs, D, rfl, rfl, rfl, hi⟩ := hrel
    have RI := hide hi
    have hi20 : i ≤ 20 := hi.i20
    clear hi
    by_cases hlt : i < m ∧ i < 20
    · obtain ⟨hlt, hlt2⟩ := hlt
      have h1 : (i : Int) < (m : Int) := by omega
      have h2 : (i : Int) < 20 := by omega
      replace HD := hide ((HD.out).below RI.out.ld.bel)
      obtain ⟨hl8, ad, rfl, h0⟩ := By.get HD.out hlt
      obtain ⟨un, hun⟩ : ∃ x : Nat, x = data[i].toNat := ⟨_, rfl⟩
      have hu8 : un < 256 := by rw [hun]; exact (data[i]).toNat_lt
      rw [← hun] at h0
      clear hun
      obtain ⟨q, hq⟩ : ∃ q, q = un % 6 := ⟨_, rfl⟩
      have hmod : (un : Int).tmod 6 = (q : Int) := by rw [Int.tmod_eq_emod_of_nonneg (by omega)]; omega
      have hq6 : q < 6 := by omega
      obtain ⟨n, hn⟩ : ∃ n, n = q + 1 := ⟨_, rfl⟩
      have hn1 : IntKind.i64.wrap ((q : Int) + 1) = (n : Int) := by rw [IntKind.wrap_i64]; omega
      have HNQ := hide (show 1 ≤ n ∧ n ≤ 6 by omega)
      clear hq hn
      go_upto_region 17 with fail
      have HAT := hide (show at_ = a0 + tot vs ∧ a0 + tot vs ≤ a0 + 32 from ⟨RI.out.at_, by have := RI.out.tl; omega⟩)
      have HATL : at_ ≤ 300 := by have := HAT.out; have := HA0.out; omega
      obtain ⟨p, hp⟩ : ∃ p, p = at_ + n := ⟨_, rfl⟩
      obtain ⟨r, hr⟩ : ∃ r, r = p + 2 := ⟨_, rfl⟩
      have HPR := hide (show p = at_ + n ∧ r = p + 2 from ⟨hp, hr⟩)
      have hs1 : IntKind.i64.wrap ((at_ : Int) + (n : Int)) = (p : Int) := by have := HNQ.out; rw [IntKind.wrap_i64]; omega
      have hs2 : IntKind.i64.wrap ((p : Int) + 2) = (r : Int) := by have := HNQ.out; rw [IntKind.wrap_i64]; omega
      clear hp hr hmod hn1 hu8 hq6
      by_cases hbr : (en : Int) < (r : Int)
      · clear h0
        have X5W := hide (X52.out.below RI.out.ld.bel)
        have WK := hide (walk_seg w2 wr d D RI.out.ld 200 32 9 (kk : Int) (by omega) (by rw [segs200]; omega) (by rw [RI.out.n]; decide) SP.out vs (by
          have := chn_walk RI.out.n HK6 a0 vs RI.out.ch (by have := HA0.out; omega) (by have := HA0.out; have := RI.out.tl; omega)
          have e1 : ((3 + 32 * kk + 32 : Nat) : Int) = 3 + (kk : Int) * 32 + 32 := by omega
          have e2 : (a0 : Int) = 3 + (kk : Int) * 32 := by have := HA0.out; omega
          rw [e1, e2] at this
          exact this))
        have e2 : (3 : Int) + (kk : Int) * 32 = (a0 : Int) := by have := HA0.out; omega
        rw [e2] at WK
        clear e2
        obtain ⟨y0, y1, y2⟩ := op3S X5W.out
        go_wp2_with fail
        clear y0 y1 y2
        refine WK.out.mono ?_
        rintro r w4 ⟨⟨A4, c4, cs4, rfl, hfr⟩, hb⟩
        have FR := hide hfr
        have OW := hide (own_bel RI.out.own hb)
        have BWE := hide (BW.out.trans ((RI.out.ld.bel.mono BW.out.size).trans (hb.mono (Nat.le_trans BW.out.size RI.out.ld.sz))))
        clear hfr hb WK
        have HLN := hide RI.out.len
        rw [RI.out.len]
        have HCT := hide RI.out.cnt
        go_wp2_with fail
        go_loopw [129] (fun y wz => ∃ j : Nat, j ≤ i ∧ y = .int .i64 (j : Int) ∧ Below w4.heap.size w4 wz) (fun y _ => i - (intOf y).toNat)
        case atStart => exact ⟨0, Nat.zero_le _, rfl, Below.refl _ _⟩
        case round =>
          obtain ⟨j, hj, rfl, hbz⟩ := hrel
          by_cases hji : j < i
          · have hjs : (j : Int) < (i : Int) := by omega
            obtain ⟨pp, hpp⟩ := adS_some (a0 : Int) vs j (by rw [HLN.out]; exact hji)
            obtain ⟨gl, rfl, x0, -, x2, -⟩ := (FR.out.below hbz).at hpp
            obtain ⟨gw, uw, rfl, -, -, hxs, xw, -, -⟩ := own_set1 (own_bel OW.out hbz) hji
            have hpc := HCT.out j pp.2 (adS_get _ _ _ _ hpp)
            rw [intC, List.getElem?_map, List.getElem?_map, hpp] at hxs
            simp only [Option.map_some, Option.some.injEq] at hxs
            subst hxs
            obtain ⟨p1, p2⟩ := pp
            dsimp only at x0 x2 xw hpc
            rw [hpc] at x2
            have ne1 : (p1 != p1) = false := by simp
            have hj9 : (j : Int) < (i : Int) := hjs
            have HBZ := hide hbz
            clear hpc hpp hbz
            go_upto_region 35 with fail
            go_quiet (fail)
            go_wp2_with fail
            go_roundw
            case rel => exact ⟨j + 1, by omega, by go_num, bel_dN HBZ.out nq⟩
            case measure => simp [intOf]; omega
          · have hjs : ¬ (j : Int) < (i : Int) := by omega
            go_wp2_with fail
            go_ret
            exact ⟨rfl, BWE.out.trans (hbz.mono BWE.out.size)⟩
      obtain ⟨x, hx⟩ : ∃ x, x = nxR at_ n := ⟨_, rfl⟩
      have HX := hide hx
      have hxm : (r : Int).tmod 190 = (x : Int) := by
        rw [Int.tmod_eq_emod_of_nonneg (by omega), hx]
        unfold nxR
        have := HPR.out
        omega
      clear hx
      go_upto_region 19 with fail
      obtain ⟨w5, hw⟩ : ∃ W, W = wr.alloc (.cells #[.int .i64 1, .int .i64 (i : Int), .int .i64 0, .int .i64 1, .int .i64 (x : Int), .slice none 0 0, .slice none 0 0] 25) := ⟨_, rfl⟩
      have ba := (show Below wr.heap.size wr w5 by rw [hw]; exact (Below.refl _ _).alloc (Nat.le_refl _) _)
      have X13 : Hid (Blk w5 wr.heap.size 25 #[.int .i64 1, .int .i64 (i : Int), .int .i64 0, .int .i64 1, .int .i64 (x : Int), .slice none 0 0, .slice none 0 0]) := hide (by rw [hw]; exact Blk.new _ _ _)
      rw [← hw]
      obtain ⟨g13, hg⟩ : ∃ g, g = wr.heap.size := ⟨_, rfl⟩
      have G13 := hide hg
      rw [← hg] at X13 ba ⊢
      have B5 := hide ba
      clear hw hg ba hxm hs1 hs2 h0
      have RI0 := hide RI.out.ld.bel.size
      obtain ⟨wo, rfl⟩ : ∃ W, W = wr := ⟨_, rfl⟩
      go_wp2_with fail
      go_loopw [14] (fun y wz => ∃ (j : Nat) (Aj : Option Addr) (cj : Nat), j ≤ n ∧ y = .int .i64 (j : Int) ∧ Blk wz g13 25 #[.int .i64 1, .int .i64 (i : Int), .int .i64 0, .int .i64 1, .int .i64 (x : Int), .slice none 0 0, .slice Aj j cj] ∧ wz.ownsRow g13 3 1 (.slice Aj j cj) j (intC (upTo j)) ∧ Below g13 wo wz) (fun y _ => n - (intOf y).toNat)
      case atStart => exact ⟨0, none, 0, Nat.zero_le _, rfl, X13.out, World.ownsRow_nil _ _ _ _, B5.out⟩
      case round =>
        clear X13 B5
        obtain ⟨j, Aj, cj, hj, rfl, hX, ho, hb⟩ := hrel
        have X13 := hide hX
        have O := hide ho
        have B5 := hide hb
        clear hX ho hb
        by_cases hjn : j < n
        · have hjs : (j : Int) < (n : Int) := by omega
          obtain ⟨j1, hj1⟩ : ∃ j1, j1 = j + 1 := ⟨_, rfl⟩
          have hjw : IntKind.i64.wrap ((j : Int) + 1) = (j1 : Int) := by have := HNQ.out; rw [IntKind.wrap_i64]; omega
          have HJ1 := hide hj1
          have hj100 : j ≤ 1000 := by have := HNQ.out; omega
          clear hj1
          have y6 := X13.out.cell 6
          simp only [List.getElem?_toArray, List.getElem?_cons_succ, List.getElem?_cons_zero] at y6
          have HS5 := hide B5.out.size
          go_wp2_with (
            at_builtin
            refine wpList_app _ rfl (.tmp 80) (.tmp 83) _ rfl etyJ g13 (.slice Aj j cj) j _ rfl (own_bel O.out ((Below.refl _ _).alloc (Nat.le_refl _) (.cells #[.int .i64 (j1 : Int)] 3))) (wr.heap.size + 1) (some ⟨wr.heap.size, 0, none⟩) 1 1 [.int .i64 (j1 : Int)] rfl (one_int wr _) (by intro u hu; rw [List.mem_singleton] at hu; rw [hu]; rfl) (by omega) (by have := X13.out.lt; simp; omega) ?_
            intro A3 c3 w6 ho hg ha
            have ba := (Below.refl wr.heap.size wr).alloc (Nat.le_refl _) (.cells #[.int .i64 (j1 : Int)] 3)
            have OO := own_bel O.out ba
            have O3 := hide ho
            have X13' := hide (blk_grT (X13.out.below ba) OO (by decide) hg)
            have B5' := hide ((B5.out.trans (ba.mono (Nat.le_of_lt X13.out.lt))).grown hg (by have := X13.out.lt; have := ba.size; omega) (fun g hg => (OO.lt g hg).1))
            have z6 := X13'.out.frozen 6
            have y6' := X13'.out.cell 6
            simp only [List.getElem?_toArray, List.getElem?_cons_succ, List.getElem?_cons_zero] at y6'
            clear ho hg ha ba OO)
          clear y6 y6' z6
          go_roundw
          case rel =>
            obtain rfl : j1 = j + 1 := HJ1.out
            have XF := X13'.out.set 6 (.slice A3 (j + 1) c3)
            simp only [List.setIfInBounds_toArray, List.set_cons_zero, List.set_cons_succ] at XF
            refine ⟨j + 1, A3, c3, by omega, rfl, XF, ?_, B5'.out.setCell (Nat.le_refl _) _⟩
            have h3 := own_ktR O3.out ((Kt.refl [25] g13 w6).set (p := ⟨g13, 6, none⟩) (.inl ⟨Nat.le_refl _, fun t cs hB => by simp [(Blk.type hB X13'.out).1]⟩) (.slice A3 (j + 1) c3)) (by decide)
            rw [intC_app] at h3
            rw [upTo_succ]
            exact h3
          case measure => have := HJ1.out; simp [intOf]; omega
        · obtain rfl : j = n := by omega
          have hjs : ¬ (j : Int) < (j : Int) := by omega
          replace RI := hide (RI.out.below (by rw [← G13.out]; exact B5.out))
          have GW := hide (show w2.heap.size ≤ g13 by rw [G13.out]; exact RI0.out)
          clear B5
          obtain ⟨s1, hs1⟩ : ∃ s1, s1 = 32 * kk := ⟨_, rfl⟩
          obtain ⟨s2, hs2⟩ : ∃ s2, s2 = 3 + s1 := ⟨_, rfl⟩
          obtain ⟨s3, hs3⟩ : ∃ s3, s3 = x + 2 := ⟨_, rfl⟩
          have HNX := hide (nxR_ok (n := j) HK6 (at_ := at_) (by have := HAT.out; have := HA0.out; omega) (by have := HPR.out; have := HEN.out; have := HA0.out; omega))
          rw [← HX.out] at HNX
          have hx200 : x < 200 := by have := HNX.out; omega
          have hw1 : IntKind.i64.wrap (32 * (kk : Int)) = (s1 : Int) := by rw [IntKind.wrap_i64]; omega
          have hw2 : IntKind.i64.wrap (3 + (s1 : Int)) = (s2 : Int) := by rw [IntKind.wrap_i64]; omega
          have hw3 : IntKind.i64.wrap ((x : Int) + 2) = (s3 : Int) := by rw [IntKind.wrap_i64]; omega
          have HS := hide (And.intro hs1 (And.intro hs2 hs3))
          clear hs1 hs2 hs3
          have y4 := X13.out.cell 4
          simp only [List.getElem?_toArray, List.getElem?_cons_succ, List.getElem?_cons_zero] at y4
          go_upto_region 23 with fail
          go_cut [98] (fun v wx => v = .bool false ∧ wx = wr)
          case first =>
            rcases (show ¬ x < at_ ∨ (x < at_ ∧ ¬ s2 < s3) by have := HNX.out; have := HS.out; omega) with h | ⟨h, h'⟩
            · have h1 : ¬ (x : Int) < (at_ : Int) := by omega
              clear h
              go_wp2_with fail
              go_meet
              exact ⟨rfl, rfl⟩
            · have h1 : (x : Int) < (at_ : Int) := by omega
              have h2 : ¬ (s2 : Int) < (s3 : Int) := by omega
              clear h h'
              go_wp2_with fail
              go_meet
              exact ⟨rfl, rfl⟩
          case rest =>
            obtain ⟨rfl, rfl⟩ := hcut
            clear hw1 hw2 hw3 y4
            go_upto_region 25 with fail
            have hy := op7 X13.out
            refine wp_region_noPanic ?_
            refine wp_region_held_drew (S := (fun w' => w'.cell? ⟨g13, 0, none⟩ = some (.int .i64 1) ∧ w'.cell? ⟨g13, 1, none⟩ = some (.int .i64 (i : Int)) ∧ w'.cell? ⟨g13, 2, none⟩ = some (.int .i64 0) ∧ w'.cell? ⟨g13, 3, none⟩ = some (.int .i64 1) ∧ w'.cell? ⟨g13, 4, none⟩ = some (.int .i64 (x : Int)) ∧ w'.cell? ⟨g13, 5, none⟩ = some (.slice none 0 0) ∧ w'.cell? ⟨g13, 6, none⟩ = some (.slice Aj j cj))) (by kernel_rfl) ?_ (fun hHeld => ?_)
            · ((try dsimp only) <;> (first | trivial | assumption | go_keep))
            clear hy
            replace RI := hide (RI.out.below (Below.refl _ _).drew)
            replace X13 := hide X13.out.drew
            replace O := hide (own_bel O.out (Below.refl _ _).drew)
            generalize wc.drew = w6 at *
            obtain ⟨u, hu⟩ : ∃ u, u = UInt8.ofNat i := ⟨_, rfl⟩
            have hcv : IntKind.u8.wrap (i : Int) = (((UInt8.ofNat i).toNat : Nat) : Int) := by
              rw [UInt8.toNat_ofNat']
              simp [IntKind.wrap, IntKind.bits, IntKind.signed]
            rw [← hu] at hcv
            clear hu
            refine wpAnyH_take (i := 0) (v := ?_) (by simp only [List.getElem?_toArray, List.getElem?_cons_succ, List.getElem?_cons_zero]; rfl) (by kernel_rfl) (by kernel_rfl) (by kernel_rfl) (fun _ _ _ h => h) (Or.inl ⟨by rfl, ?_⟩) (by assumption) ?_
            rotate_left 1
            · (intro w hSw; (try dsimp only at hSw); go_simp; try with_reducible rfl)
            try simp only [Act.put, List.setIfInBounds_toArray, List.set_cons_zero, List.set_cons_succ]
            refine wpAnyH_take (i := 1) (v := ?_) (by simp only [List.getElem?_toArray, List.getElem?_cons_succ, List.getElem?_cons_zero]; rfl) (by kernel_rfl) (by kernel_rfl) (by kernel_rfl) (fun _ _ _ h => h) (Or.inl ⟨by rfl, ?_⟩) (by assumption) ?_
            rotate_left 1
            · (intro w hSw; (try dsimp only at hSw); go_simp; try with_reducible rfl)
            try simp only [Act.put, List.setIfInBounds_toArray, List.set_cons_zero, List.set_cons_succ]
            refine wpAnyH_take (i := 2) (v := ?_) (by simp only [List.getElem?_toArray, List.getElem?_cons_succ, List.getElem?_cons_zero]; rfl) (by kernel_rfl) (by kernel_rfl) (by kernel_rfl) (fun _ _ _ h => h) (Or.inl ⟨by rfl, ?_⟩) (by assumption) ?_
            rotate_left 1
            · (intro w hSw; (try dsimp only at hSw); go_simp; try with_reducible rfl)
            try simp only [Act.put, List.setIfInBounds_toArray, List.set_cons_zero, List.set_cons_succ]
            refine wpAnyH_take (i := 3) (v := ?_) (by simp only [List.getElem?_toArray, List.getElem?_cons_succ, List.getElem?_cons_zero]; rfl) (by kernel_rfl) (by kernel_rfl) (by kernel_rfl) (fun _ _ _ h => h) (Or.inl ⟨by rfl, ?_⟩) (by assumption) ?_
            rotate_left 1
            · (intro w hSw; (try dsimp only at hSw); go_simp; try with_reducible rfl)
            try simp only [Act.put, List.setIfInBounds_toArray, List.set_cons_zero, List.set_cons_succ]
            refine wpAnyH_take (i := 4) (v := ?_) (by simp only [List.getElem?_toArray, List.getElem?_cons_succ, List.getElem?_cons_zero]; rfl) (by kernel_rfl) (by kernel_rfl) (by kernel_rfl) (fun _ _ _ h => h) (Or.inl ⟨by rfl, ?_⟩) (by assumption) ?_
            rotate_left 1
            · (intro w hSw; (try dsimp only at hSw); go_simp; try with_reducible rfl)
            try simp only [Act.put, List.setIfInBounds_toArray, List.set_cons_zero, List.set_cons_succ]
            refine wpAnyH_take (i := 5) (v := ?_) (by simp only [List.getElem?_toArray, List.getElem?_cons_succ, List.getElem?_cons_zero]; rfl) (by kernel_rfl) (by kernel_rfl) (by kernel_rfl) (fun _ _ _ h => h) (Or.inl ⟨by rfl, ?_⟩) (by assumption) ?_
            rotate_left 1
            · (intro w hSw; (try dsimp only at hSw); go_simp; try with_reducible rfl)
            try simp only [Act.put, List.setIfInBounds_toArray, List.set_cons_zero, List.set_cons_succ]
            refine wpAnyH_ready (rs := [6]) (by kernel_rfl) (by simp) ?_
            refine AllReadyH.cons (by simp only [List.getElem?_toArray, List.getElem?_cons_succ, List.getElem?_cons_zero]; rfl) (fun K hK => ?_) ?_
            rotate_left 1
            · exact AllReadyH.nil
            go_simp
            refine hK.out _ _ ?_ (fun hHeld2 => ?_)
            · ((try dsimp only) <;> (first | trivial | assumption | go_keep))
            clear hHeld
            have hHeld := hHeld2
            clear hHeld2 hK K
            try simp only [Act.put, List.setIfInBounds_toArray, List.set_cons_zero, List.set_cons_succ]
            have ba := (Below.refl w6.heap.size w6).alloc (Nat.le_refl _) (.cells #[.int .u8 ((u.toNat : Nat) : Int)] 5)
            have HBY : Hid (By (w6.alloc (.cells #[.int .u8 ((u.toNat : Nat) : Int)] 5)) (w6.alloc (.cells #[.int .u8 ((u.toNat : Nat) : Int)] 5)).heap.size (some ⟨w6.heap.size, 0, none⟩) 1 [u]) := hide (by_blk (l := [u]) (Blk.new w6 5 #[.int .u8 ((u.toNat : Nat) : Int)]) rfl)
            replace RI := hide (RI.out.below ba)
            replace X13 := hide (X13.out.below ba)
            replace O := hide (own_bel O.out ba)
            obtain ⟨g20, hg⟩ : ∃ g, g = w6.heap.size := ⟨_, rfl⟩
            rw [← hg] at HBY ⊢
            clear ba hg
            generalize w6.alloc (.cells #[.int .u8 ((u.toNat : Nat) : Int)] 5) = w7 at *
            clear hHeld
            have hHeld := op7 X13.out
            have hj6 : j ≤ 6 := HNQ.out.2
            have BC := hide (blocks_any (rwV i j x) none Aj 0 0 j cj 0 0 (some ⟨g20, 0, none⟩) 1 1 _ [u] w7 FisAt.nil (upTo_len j) (by decide) (by omega) (by show lsN [] ≤ 100000; decide) HBY.out (Nat.le_refl _) (by decide) (by decide))
            rw [show min (rwV i j x).n 200 - 2 = j by rw [rwV_n]; omega] at BC
            refine wpAnyH_ready (rs := [7]) (by kernel_rfl) (by simp) ?_
            refine AllReadyH.cons (by simp only [List.getElem?_toArray, List.getElem?_cons_succ, List.getElem?_cons_zero]; rfl) (fun K hK => ?_) ?_
            rotate_left 1
            · exact AllReadyH.nil
            go_simp
            refine BC.out.mono ?_; rintro r w8 ⟨A8, c8, gs, rfl, hR, hb⟩; have RT := hide hR; have S4 := hide RI.out.ld.sz; replace RI := hide (RI.out.below hb); replace X13 := hide (X13.out.below hb); replace O := hide (own_bel O.out hb); clear hR hb; have hy := op7 X13.out
            refine hK.out _ _ ?_ (fun hHeld2 => ?_)
            · ((try dsimp only) <;> (first | trivial | assumption | go_keep))
            clear hHeld
            have hHeld := hHeld2
            clear hHeld2 hK K
            try simp only [Act.put, List.setIfInBounds_toArray, List.set_cons_zero, List.set_cons_succ]
            clear hHeld BC HBY
            have hHeld := hy
            clear hy
            have WC := hide (write_any w2 w8 d D RI.out.ld (at_ : Int) (by unfold I64; omega) (rwV i j x) none Aj 0 0 j cj 0 0 SP.out FisAt.nil ((RwAt.of_own (base := w2.heap.size) O.out).lo_ (Nat.zero_le _)) (by decide) (by omega) (by show lsN [] ≤ 100000; decide) (by intro f hf; cases hf) A8 j c8 (blkS j [u]) (by have := (RT.out.bq S4.out).bs; rw [blkS_len] at this; exact this) (by omega) (by have := RI.out.s; omega) (by rw [RI.out.q]; exact Nat.zero_le _))
            obtain ⟨R, hR⟩ : ∃ R, R = wrS D (at_ : Int) (rwV i j x) (blkS j [u]) := ⟨_, rfl⟩
            rw [← hR] at WC
            have HST := hide (fun w' A2 c2 => RI.out.step (w' := w') (A2 := A2) (c2 := c2) (kk := kk) hR HA0.out HK6 HX.out (by omega) hj6 (by have := HPR.out; have := HEN.out; omega) (blkS_len _ _) (blkS_64 _ _))
            clear hR
            obtain ⟨q0, E⟩ := R
            obtain rfl : q0 = 0 := (HST.out w8 A8 c8).1
            dsimp only at WC HST
            refine wpAnyH_ready (rs := [8]) (by kernel_rfl) (by simp) ?_
            refine AllReadyH.cons (by simp only [List.getElem?_toArray, List.getElem?_cons_succ, List.getElem?_cons_zero]; rfl) (fun K hK => ?_) ?_
            rotate_left 1
            · exact AllReadyH.nil
            go_simp
            refine WC.out.mono ?_; rintro r w9 ⟨rfl, hst⟩; have K9 := hide (stp_kt RI.out.ld hst); have L9 := hide hst.ld; replace X13 := hide (X13.out.kt K9.out (by decide)); have OW := hide (own_ktR RI.out.own K9.out (by decide)); clear hst; have hy := op7 X13.out
            refine hK.out _ _ ?_ (fun hHeld2 => ?_)
            · ((try dsimp only) <;> (first | trivial | assumption | go_keep))
            clear hHeld
            have hHeld := hHeld2
            clear hHeld2 hK K
            try simp only [Act.put, List.setIfInBounds_toArray, List.set_cons_zero, List.set_cons_succ]
            clear hHeld WC K9 RT O S4 RI
            have hHeld := hy
            clear hy
            refine wpAnyH_take (i := 9) (v := ?_) (by simp only [List.getElem?_toArray, List.getElem?_cons_succ, List.getElem?_cons_zero]; rfl) (by kernel_rfl) (by kernel_rfl) (by kernel_rfl) (fun _ _ _ h => h) (Or.inl ⟨by rfl, ?_⟩) (by assumption) ?_
            rotate_left 1
            · (intro w hSw; (try dsimp only at hSw); go_simp; try with_reducible rfl)
            try simp only [Act.put, List.setIfInBounds_toArray, List.set_cons_zero, List.set_cons_succ]
            refine wpAnyH_done (by kernel_rfl) ?_ _
            refine NoPanic.normal ?_
            clear hHeld X13
            have hi100 : i ≤ 1000 := by omega
            obtain ⟨t1, ht1⟩ : ∃ t, t = j + 2 := ⟨_, rfl⟩
            obtain ⟨t2, ht2⟩ : ∃ t, t = at_ + t1 := ⟨_, rfl⟩
            have HT := hide (And.intro ht1 ht2)
            have hv1 : IntKind.i64.wrap ((j : Int) + 2) = (t1 : Int) := by rw [IntKind.wrap_i64]; omega
            have hv2 : IntKind.i64.wrap ((at_ : Int) + (t1 : Int)) = (t2 : Int) := by rw [IntKind.wrap_i64]; omega
            clear ht1 ht2
            have SZ := hide L9.out.sz
            go_wp2_with (
              at_builtin
              refine wpList_app _ rfl (.tmp 110) (.tmp 112) _ rfl etyJ w2.heap.size (.slice A' i c') i _ rfl (own_bel OW.out ((Below.refl _ _).alloc (Nat.le_refl _) (.cells #[.int .i64 (at_ : Int)] 3))) (w9.heap.size + 1) (some ⟨w9.heap.size, 0, none⟩) 1 1 [.int .i64 (at_ : Int)] rfl (one_int w9 _) (by intro u hu; rw [List.mem_singleton] at hu; rw [hu]; rfl) (by omega) (Nat.le_trans SZ.out (by simp)) ?_
              intro A3 c3 wz ho hg ha
              have ba := (Below.refl w9.heap.size w9).alloc (Nat.le_refl _) (.cells #[.int .i64 (at_ : Int)] 3)
              have OO := own_bel OW.out ba
              have O3 := hide ho
              have LZ := hide ((L9.out.below ba).kpO (kp_growO hg) (fun k hk => by
                have hk' : (Value.slice A' i c').ownBlock = some k := by simpa using hk
                obtain ⟨h1, cs, hB⟩ := own_blkO OO hk'
                exact ⟨h1, out_typeO (L9.out.below ba) hB (by decide)⟩))
              clear ho hg ha ba OO)
            go_roundw
            case rel =>
              have RN := (HST.out wz A3 c3).2 LZ.out O3.out
              have e : t2 = at_ + (j + 2) := by have := HT.out; omega
              rw [← e] at RN
              exact ⟨i + 1, t2, A3, c3, vs ++ [rwV i j x], E, rfl, rfl, by go_num, RN⟩
            case measure => simp [intOf]; omega
    · rcases (show ¬ i < m ∨ (i < m ∧ ¬ i < 20) by omega) with h | ⟨h, h'⟩
      · have h1 : ¬ (i : Int) < (m : Int) := by omega
        clear h hlt
        have X5W := hide (X52.out.below RI.out.ld.bel)
        have WK := hide (walk_seg w2 wr d D RI.out.ld 200 32 9 (kk : Int) (by omega) (by rw [segs200]; omega) (by rw [RI.out.n]; decide) SP.out vs (by
          have := chn_walk RI.out.n HK6 a0 vs RI.out.ch (by have := HA0.out; omega) (by have := HA0.out; have := RI.out.tl; omega)
          have e1 : ((3 + 32 * kk + 32 : Nat) : Int) = 3 + (kk : Int) * 32 + 32 := by omega
          have e2 : (a0 : Int) = 3 + (kk : Int) * 32 := by have := HA0.out; omega
          rw [e1, e2] at this
          exact this))
        have e2 : (3 : Int) + (kk : Int) * 32 = (a0 : Int) := by have := HA0.out; omega
        rw [e2] at WK
        clear e2
        obtain ⟨y0, y1, y2⟩ := op3S X5W.out
        go_wp2_with fail
        clear y0 y1 y2
        refine WK.out.mono ?_
        rintro r w4 ⟨⟨A4, c4, cs4, rfl, hfr⟩, hb⟩
        have FR := hide hfr
        have OW := hide (own_bel RI.out.own hb)
        have BWE := hide (BW.out.trans ((RI.out.ld.bel.mono BW.out.size).trans (hb.mono (Nat.le_trans BW.out.size RI.out.ld.sz))))
        clear hfr hb WK
        have HLN := hide RI.out.len
        rw [RI.out.len]
        have HCT := hide RI.out.cnt
        go_wp2_with fail
        go_loopw [129] (fun y wz => ∃ j : Nat, j ≤ i ∧ y = .int .i64 (j : Int) ∧ Below w4.heap.size w4 wz) (fun y _ => i - (intOf y).toNat)
        case atStart => exact ⟨0, Nat.zero_le _, rfl, Below.refl _ _⟩
        case round =>
          obtain ⟨j, hj, rfl, hbz⟩ := hrel
          by_cases hji : j < i
          · have hjs : (j : Int) < (i : Int) := by omega
            obtain ⟨pp, hpp⟩ := adS_some (a0 : Int) vs j (by rw [HLN.out]; exact hji)
            obtain ⟨gl, rfl, x0, -, x2, -⟩ := (FR.out.below hbz).at hpp
            obtain ⟨gw, uw, rfl, -, -, hxs, xw, -, -⟩ := own_set1 (own_bel OW.out hbz) hji
            have hpc := HCT.out j pp.2 (adS_get _ _ _ _ hpp)
            rw [intC, List.getElem?_map, List.getElem?_map, hpp] at hxs
            simp only [Option.map_some, Option.some.injEq] at hxs
            subst hxs
            obtain ⟨p1, p2⟩ := pp
            dsimp only at x0 x2 xw hpc
            rw [hpc] at x2
            have ne1 : (p1 != p1) = false := by simp
            have hj9 : (j : Int) < (i : Int) := hjs
            have HBZ := hide hbz
            clear hpc hpp hbz
            go_upto_region 35 with fail
            go_quiet (fail)
            go_wp2_with fail
            go_roundw
            case rel => exact ⟨j + 1, by omega, by go_num, bel_dN HBZ.out nq⟩
            case measure => simp [intOf]; omega
          · have hjs : ¬ (j : Int) < (i : Int) := by omega
            go_wp2_with fail
            go_ret
            exact ⟨rfl, BWE.out.trans (hbz.mono BWE.out.size)⟩
      · have h1 : (i : Int) < (m : Int) := by omega
        have h2 : ¬ (i : Int) < 20 := by omega
        clear h h' hlt
        have X5W := hide (X52.out.below RI.out.ld.bel)
        have WK := hide (walk_seg w2 wr d D RI.out.ld 200 32 9 (kk : Int) (by omega) (by rw [segs200]; omega) (by rw [RI.out.n]; decide) SP.out vs (by
          have := chn_walk RI.out.n HK6 a0 vs RI.out.ch (by have := HA0.out; omega) (by have := HA0.out; have := RI.out.tl; omega)
          have e1 : ((3 + 32 * kk + 32 : Nat) : Int) = 3 + (kk : Int) * 32 + 32 := by omega
          have e2 : (a0 : Int) = 3 + (kk : Int) * 32 := by have := HA0.out; omega
          rw [e1, e2] at this
          exact this))
        have e2 : (3 : Int) + (kk : Int) * 32 = (a0 : Int) := by have := HA0.out; omega
        rw [e2] at WK
        clear e2
        obtain ⟨y0, y1, y2⟩ := op3S X5W.out
        go_wp2_with fail
        clear y0 y1 y2
        refine WK.out.mono ?_
        rintro r w4 ⟨⟨A4, c4, cs4, rfl, hfr⟩, hb⟩
        have FR := hide hfr
        have OW := hide (own_bel RI.out.own hb)
        have BWE := hide (BW.out.trans ((RI.out.ld.bel.mono BW.out.size).trans (hb.mono (Nat.le_trans BW.out.size RI.out.ld.sz))))
        clear hfr hb WK
        have HLN := hide RI.out.len
        rw [RI.out.len]
        have HCT := hide RI.out.cnt
        go_wp2_with fail
        go_loopw [129] (fun y wz => ∃ j : Nat, j ≤ i ∧ y = .int .i64 (j : Int) ∧ Below w4.heap.size w4 wz) (fun y _ => i - (intOf y).toNat)
        case atStart => exact ⟨0, Nat.zero_le _, rfl, Below.refl _ _⟩
        case round =>
          obtain ⟨j, hj, rfl, hbz⟩ := hrel
          by_cases hji : j < i
          · have hjs : (j : Int) < (i : Int) := by omega
            obtain ⟨pp, hpp⟩ := adS_some (a0 : Int) vs j (by rw [HLN.out]; exact hji)
            obtain ⟨gl, rfl, x0, -, x2, -⟩ := (FR.out.below hbz).at hpp
            obtain ⟨gw, uw, rfl, -, -, hxs, xw, -, -⟩ := own_set1 (own_bel OW.out hbz) hji
            have hpc := HCT.out j pp.2 (adS_get _ _ _ _ hpp)
            rw [intC, List.getElem?_map, List.getElem?_map, hpp] at hxs
            simp only [Option.map_some, Option.some.injEq] at hxs
            subst hxs
            obtain ⟨p1, p2⟩ := pp
            dsimp only at x0 x2 xw hpc
            rw [hpc] at x2
            have ne1 : (p1 != p1) = false := by simp
            have hj9 : (j : Int) < (i : Int) := hjs
            have HBZ := hide hbz
            clear hpc hpp hbz
            go_upto_region 35 with fail
            go_quiet (fail)
            go_wp2_with fail
            go_roundw
            case rel => exact ⟨j + 1, by omega, by go_num, bel_dN HBZ.out nq⟩
            case measure => simp [intOf]; omega
          · have hjs : ¬ (j : Int) < (i : Int) := by omega
            go_wp2_with fail
            go_ret
            exact ⟨rfl, BWE.out.trans (hbz.mono BWE.out.size)⟩
end Go.Proofs.YtlobkefacnedeaaDoor
