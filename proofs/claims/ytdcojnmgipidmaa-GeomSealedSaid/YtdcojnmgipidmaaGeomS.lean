/- What geometries are, in plain numbers. No program in sight. -/
import Derived.Test.YtdcojnmgipidmaaMem
namespace Go.Proofs.Ytdcojnmgipidmaa

/-- Is a number from lo to hi? -/
def inB (n lo hi : Int) : Bool := decide (lo ≤ n ∧ n ≤ hi)
theorem inB_yes {n lo hi : Int} (h : lo ≤ n ∧ n ≤ hi) : inB n lo hi = true := decide_eq_true h
theorem inB_no {n lo hi : Int} (h : ¬ (lo ≤ n ∧ n ≤ hi)) : inB n lo hi = false := decide_eq_false h
/-- Are these numbers a geometry? -/
def GeoP (b s i : Int) : Prop := 64 ≤ b ∧ b ≤ 4096 ∧ 8 ≤ s ∧ s ≤ 64 ∧ 4 ≤ i ∧ i ≤ 200 ∧ 6 ≤ (b - 3) / s
instance (b s i : Int) : Decidable (GeoP b s i) := by unfold GeoP; infer_instance
/-- How many segments. -/
def segsI (b s i : Int) : Int := if GeoP b s i then (b - 3) / s else 0
theorem segsI_yes {b s i : Int} (h : GeoP b s i) : segsI b s i = (b - 3) / s := if_pos h
theorem segsI_no {b s i : Int} (h : ¬ GeoP b s i) : segsI b s i = 0 := if_neg h
theorem div_bd {b s : Int} (h1 : 64 ≤ b) (h2 : b ≤ 4096) (h3 : 8 ≤ s) : 0 ≤ (b - 3) / s ∧ (b - 3) / s ≤ 512 ∧ (b - 3) / s * s ≤ b - 3 ∧ b - 3 < (b - 3) / s * s + s := by
  have e := Int.mul_ediv_add_emod (b - 3) s
  have h4 := Int.emod_nonneg (b - 3) (show s ≠ 0 by omega)
  have h5 := Int.emod_lt_of_pos (b - 3) (show 0 < s by omega)
  have h6 : 0 ≤ (b - 3) / s := Int.ediv_nonneg (by omega) (by omega)
  rw [Int.mul_comm] at e
  refine ⟨h6, ?_, by omega, by omega⟩
  have : (b - 3) / s ≤ 4093 / 8 := by
    refine Int.le_of_lt_add_one ((Int.ediv_lt_iff_lt_mul (by omega)).2 ?_)
    have : (4093 / 8 + 1 : Int) * 8 ≤ (4093 / 8 + 1) * s := Int.mul_le_mul_of_nonneg_left (by omega) (by omega)
    omega
  omega
theorem segsI_bd (b s i : Int) : 0 ≤ segsI b s i ∧ segsI b s i ≤ 512 := by
  by_cases h : GeoP b s i
  · rw [segsI_yes h]; have := div_bd h.1 h.2.1 h.2.2.1; omega
  · rw [segsI_no h]; omega
theorem segsI_pos {b s i : Int} (h : 0 < segsI b s i) : GeoP b s i := by
  by_cases hg : GeoP b s i
  · exact hg
  · rw [segsI_no hg] at h; omega
/-- Which of the tests says no first. -/
theorem geo_no {b s i : Int} (h : ¬ GeoP b s i) :
    ¬ (64 ≤ b ∧ b ≤ 4096) ∨ ((64 ≤ b ∧ b ≤ 4096) ∧ ¬ (8 ≤ s ∧ s ≤ 64)) ∨ ((64 ≤ b ∧ b ≤ 4096) ∧ (8 ≤ s ∧ s ≤ 64) ∧ ¬ (4 ≤ i ∧ i ≤ 200)) ∨
      ((64 ≤ b ∧ b ≤ 4096) ∧ (8 ≤ s ∧ s ≤ 64) ∧ (4 ≤ i ∧ i ≤ 200) ∧ (b - 3) / s < 6) := by
  unfold GeoP at h; omega
/-- Is it a block of a segment? -/
def inSegs (b s i a : Int) : Prop := 3 ≤ a ∧ a ≤ 3 + segsI b s i * s - 1
theorem inSegs_geo {b s i a : Int} (h : inSegs b s i a) : GeoP b s i := by
  by_cases hg : GeoP b s i
  · exact hg
  · unfold inSegs at h; rw [segsI_no hg] at h; omega
theorem segs_fit {b s i : Int} (h : GeoP b s i) : 6 ≤ segsI b s i ∧ segsI b s i ≤ 512 ∧ 48 ≤ segsI b s i * s ∧ segsI b s i * s ≤ b - 3 ∧ b - 3 < segsI b s i * s + s := by
  obtain ⟨h1, h2, h3, h4, h5, h6, h7⟩ := h
  rw [segsI_yes ⟨h1, h2, h3, h4, h5, h6, h7⟩]
  have := div_bd h1 h2 h3
  have h8 : 6 * 8 ≤ (b - 3) / s * s := Int.mul_le_mul h7 h3 (by omega) (by omega)
  omega
/-- The place of a block: its segment, and where in it. -/
theorem place {s a n : Int} (hs : 0 < s) (h : 3 ≤ a) (h2 : a ≤ 3 + n * s - 1) : 0 ≤ (a - 3) / s ∧ (a - 3) / s < n ∧ 0 ≤ (a - 3) % s ∧ (a - 3) % s < s ∧ a = 3 + (a - 3) / s * s + (a - 3) % s := by
  have e := Int.mul_ediv_add_emod (a - 3) s
  have h4 := Int.emod_nonneg (a - 3) (show s ≠ 0 by omega)
  have h5 := Int.emod_lt_of_pos (a - 3) hs
  have h6 : 0 ≤ (a - 3) / s := Int.ediv_nonneg (by omega) (by omega)
  have h7 : (a - 3) / s < n := (Int.ediv_lt_iff_lt_mul hs).2 (by omega)
  rw [Int.mul_comm] at e
  exact ⟨h6, h7, h4, h5, by omega⟩
theorem place_one {s a q k : Int} (hk0 : 0 ≤ k) (hk : k < s) (h : a = 3 + q * s + k) : (a - 3) / s = q ∧ (a - 3) % s = k := by
  have e : a - 3 = k + s * q := by rw [Int.mul_comm]; omega
  rw [e, Int.add_mul_ediv_left _ _ (by omega), Int.add_mul_emod_self_left, Int.ediv_eq_zero_of_lt hk0 hk, Int.emod_eq_of_lt hk0 hk]
  exact ⟨by omega, rfl⟩
theorem segs_mul_bd (b s i : Int) : 0 ≤ segsI b s i * s ∧ segsI b s i * s ≤ 4096 := by
  by_cases hg : GeoP b s i
  · have := segs_fit hg
    obtain ⟨g1, g2, _⟩ := hg
    omega
  · rw [segsI_no hg]; omega
/-- Which of the reference's tests says yes first. -/
theorem ref_no {b s i : Int} (h : ¬ (64 ≤ b ∧ b ≤ 4096 ∧ 8 ≤ s ∧ s ≤ 64 ∧ 4 ≤ i ∧ i ≤ 200)) :
    b < 64 ∨ (64 ≤ b ∧ 4096 < b) ∨ ((64 ≤ b ∧ b ≤ 4096) ∧ s < 8) ∨ ((64 ≤ b ∧ b ≤ 4096) ∧ 8 ≤ s ∧ 64 < s) ∨
      ((64 ≤ b ∧ b ≤ 4096) ∧ (8 ≤ s ∧ s ≤ 64) ∧ i < 4) ∨ ((64 ≤ b ∧ b ≤ 4096) ∧ (8 ≤ s ∧ s ≤ 64) ∧ 4 ≤ i ∧ 200 < i) := by omega
theorem seg_more {b s n : Int} (hs : 0 < s) (h : 3 + (n + 1) * s ≤ b) : n + 1 ≤ (b - 3) / s := (Int.le_ediv_iff_mul_le hs).2 (by omega)
theorem seg_less {b s n : Int} (hs : 0 < s) (h : ¬ 3 + (n + 1) * s ≤ b) : (b - 3) / s ≤ n := by
  have : (b - 3) / s < n + 1 := (Int.ediv_lt_iff_lt_mul hs).2 (by omega)
  omega
theorem mul_bd {n s : Int} (h0 : 0 ≤ n) (h1 : n ≤ 1000) (h2 : 8 ≤ s) (h3 : s ≤ 64) : 0 ≤ n * s ∧ n * s ≤ 64000 :=
  ⟨Int.mul_nonneg h0 (by omega), Int.mul_le_mul h1 h3 (by omega) (by omega)⟩
instance (b s i a : Int) : Decidable (inSegs b s i a) := by unfold inSegs; infer_instance
/-- The answer of Of, the error a number. -/
def ofV (b s i a : Int) : Value := if inSegs b s i a then .tuple #[.int .i64 ((a - 3) / s), .int .i64 ((a - 3) % s), .int .i64 0] else .tuple #[.int .i64 0, .int .i64 0, .int .i64 22]
theorem ofV_yes {b s i a : Int} (h : inSegs b s i a) : ofV b s i a = .tuple #[.int .i64 ((a - 3) / s), .int .i64 ((a - 3) % s), .int .i64 0] := if_pos h
theorem ofV_no {b s i a : Int} (h : ¬ inSegs b s i a) : ofV b s i a = .tuple #[.int .i64 0, .int .i64 0, .int .i64 22] := if_neg h
theorem ofV_found {b s i a q k : Int} (hq0 : 0 ≤ q) (hq : q < segsI b s i) (hk0 : 0 ≤ k) (hk : k < s) (h : a = 3 + q * s + k) : ofV b s i a = .tuple #[.int .i64 q, .int .i64 k, .int .i64 0] := by
  have h1 : (q + 1) * s ≤ segsI b s i * s := Int.mul_le_mul_of_nonneg_right (by omega) (by omega)
  rw [Int.add_mul, Int.one_mul] at h1
  have h2 : 0 ≤ q * s := Int.mul_nonneg hq0 (by omega)
  obtain ⟨e1, e2⟩ := place_one hk0 hk h
  rw [ofV_yes (⟨by omega, by omega⟩ : inSegs b s i a), e1, e2]
theorem ofV_none {b s i a : Int} (h : ¬ (3 ≤ a ∧ a < 3 + segsI b s i * s)) : ofV b s i a = .tuple #[.int .i64 0, .int .i64 0, .int .i64 22] := ofV_no (fun h' => h ⟨h'.1, by have := h'.2; omega⟩)
theorem seg_fits {b s i k : Int} (h0 : 0 ≤ k) (h1 : k < segsI b s i) : 3 + k * s + s ≤ b := by
  have hg := segsI_pos (by omega : 0 < segsI b s i)
  have := segs_fit hg
  have h2 : (k + 1) * s ≤ segsI b s i * s := Int.mul_le_mul_of_nonneg_right (by omega) (by have := hg.2.2.1; omega)
  rw [Int.add_mul, Int.one_mul] at h2
  omega
theorem at_place {b s i k j : Int} (h0 : 0 ≤ k) (h1 : k < segsI b s i) (j0 : 0 ≤ j) (j1 : j < s) : inSegs b s i (3 + k * s + j) ∧ (3 + k * s + j - 3) / s = k ∧ (3 + k * s + j - 3) % s = j := by
  obtain ⟨e1, e2⟩ := place_one (s := s) (a := 3 + k * s + j) (q := k) (k := j) j0 j1 rfl
  have h2 : (k + 1) * s ≤ segsI b s i * s := Int.mul_le_mul_of_nonneg_right (by omega) (by omega)
  rw [Int.add_mul, Int.one_mul] at h2
  have h3 : 0 ≤ k * s := Int.mul_nonneg h0 (by omega)
  exact ⟨⟨by omega, by omega⟩, e1, e2⟩
theorem at_first {b s i k : Int} (h0 : 0 ≤ k) (h1 : k < segsI b s i) : inSegs b s i (3 + k * s) ∧ (3 + k * s - 3) / s = k ∧ (3 + k * s - 3) % s = 0 := by
  have hg := segsI_pos (by omega : 0 < segsI b s i)
  have := at_place (j := 0) h0 h1 (by omega) (by have := hg.2.2.1; omega)
  simpa using this
theorem geo_more {b s i d : Int} (h : GeoP b s i) (h0 : 0 ≤ d) (h1 : d ≤ 4096 - b) : GeoP (b + d) s i ∧ segsI b s i ≤ segsI (b + d) s i ∧ (segsI (b + d) s i - segsI b s i) * s ≤ d + s := by
  have hf := segs_fit h
  obtain ⟨g1, g2, g3, g4, g5, g6, g7⟩ := h
  have hm : (b - 3) / s ≤ (b + d - 3) / s := Int.ediv_le_ediv (by omega) (by omega)
  have h2 : GeoP (b + d) s i := ⟨by omega, by omega, g3, g4, g5, g6, by omega⟩
  have hf2 := segs_fit h2
  refine ⟨h2, ?_, ?_⟩
  · rw [segsI_yes h2, segsI_yes ⟨g1, g2, g3, g4, g5, g6, g7⟩]; exact hm
  · rw [Int.sub_mul]; omega
theorem more_place (c : Int) (b : Int) (h1 : 64 ≤ b) (h2 : b ≤ 4096) : ∃ d : Int, RowKit.wrap64 ((IntKind.u64.wrap c).tmod (4097 - b)) = d ∧ 0 ≤ d ∧ d ≤ 4096 - b := by
  have h0' : 0 ≤ IntKind.u64.wrap c := by simp [IntKind.wrap, IntKind.bits, IntKind.signed]; omega
  generalize IntKind.u64.wrap c = u at *
  rw [Int.tmod_eq_emod_of_nonneg h0']
  have e1 := Int.emod_nonneg u (show 4097 - b ≠ 0 by omega)
  have e2 := Int.emod_lt_of_pos u (show (0 : Int) < 4097 - b by omega)
  exact ⟨_, IntWalk.wrap64_in _ (by omega), by omega, by omega⟩
end Go.Proofs.Ytdcojnmgipidmaa
