/- The walks over package disk: step, New, Size, Steps, Arm. -/
import Derived.Test.YtfaingklglelnaaProg
import Derived.Test.YtfaingklglelnaaDskS
import Derived.Deep.RegionWith
import Derived.Deep.DeepCutAuto
import Derived.Deep.QuietTactic
import Derived.BigQuiet
import Derived.Deep.RegionHeld3
import Derived.Deep.MidRow
namespace Go.Proofs.Ytfaingklglelnaa
open Go.RowKit

abbrev DskA (w : World) (base d s : Nat) (v : Value) (D : Dsk) : Prop := DskM 94 99 101 w base d s v D
theorem dsk_cells {w : World} {base d s : Nat} {v : Value} {D : Dsk} (h : DskA w base d s v D) :
    w.cell? ⟨d, 0, none⟩ = some (.slice (some ⟨s, 0, none⟩) D.sure.length D.cap) ∧ w.cell? ⟨d, 1, none⟩ = some v ∧ w.cell? ⟨d, 2, none⟩ = some (.int .i64 (D.steps : Int)) ∧ w.cell? ⟨d, 3, none⟩ = some (.int .i64 D.left) ∧
    w.frozen? ⟨d, 1, none⟩ = false ∧ w.frozen? ⟨d, 2, none⟩ = false ∧ w.frozen? ⟨d, 3, none⟩ = false :=
  ⟨h.hd.cell 0, h.hd.cell 1, h.hd.cell 2, h.hd.cell 3, h.hd.frozen 1, h.hd.frozen 2, h.hd.frozen 3⟩
/-- The disk behind a step. -/
def Dsk.stepped (D : Dsk) : Dsk := { D with steps := D.steps + 1, left := max (D.left - 1) (-1) }

theorem step_dead (w : World) (base d s : Nat) (v : Value) (D : Dsk) (h : DskA w base d s v D) (hl : D.left = 0) :
    Calls Try.prog 47 #[.pointer (some ⟨d, 0, none⟩)] w fun e w' => e = .returned (.int .i64 102) ∧ w = w' := by
  obtain ⟨c0, c1, c2, c3, f1, f2, f3⟩ := dsk_cells h
  rw [hl] at c3
  clear h hl
  go_enter Try.func47, Try.ntmps47
  go_wp2
  go_ret
  exact ⟨rfl, rfl⟩
theorem DskM.stepped {td tb ti : TypeId} {w : World} {base d s : Nat} {v : Value} {D : Dsk} (h : DskM td tb ti w base d s v D) (hs : D.steps < 1000000) :
    DskM td tb ti ((w.setCell ⟨d, 3, none⟩ (.int .i64 (max (D.left - 1) (-1)))).setCell ⟨d, 2, none⟩ (.int .i64 ((D.steps + 1 : Nat) : Int))) base d s v D.stepped where
  hd := (h.hd.set 3 (.int .i64 (max (D.left - 1) (-1)))).set 2 (.int .i64 ((D.steps + 1 : Nat) : Int))
  hs := (h.hs.far (p := ⟨d, 3, none⟩) h.ne.symm _).far (p := ⟨d, 2, none⟩) h.ne.symm _
  hq := by
    refine ⟨h.hq.1, ?_⟩
    rcases h.hq.2 with h0 | ⟨g, cap, cur, rfl, h2, h3, h4⟩
    · exact .inl h0
    · have hg := (h.nq g rfl).1
      refine .inr ⟨g, cap, cur, rfl, h2, ?_, h4⟩
      exact (Below.heap_setCell _ ⟨d, 2, none⟩ _ g hg).trans ((Below.heap_setCell _ ⟨d, 3, none⟩ _ g hg).trans h3)
  ne := h.ne
  nq := h.nq
  db := h.db
  sb := h.sb
  ok := { h.ok with l := by have := h.ok.l; show -1 ≤ max (D.left - 1) (-1) ∧ max (D.left - 1) (-1) ≤ 9223372036854775807; omega, s := by show D.steps + 1 ≤ 1000000; omega }
theorem step_ok (w : World) (base d s : Nat) (v : Value) (D : Dsk) (h : DskA w base d s v D) (hl : D.left ≠ 0) (hs : D.steps < 1000000) :
    Calls Try.prog 47 #[.pointer (some ⟨d, 0, none⟩)] w fun e w' => e = .returned (.int .i64 0) ∧ DskA w' base d s v D.stepped ∧ Kp [d] w w' := by
  obtain ⟨c0, c1, c2, c3, f1, f2, f3⟩ := dsk_cells h
  have H := hide (h.stepped hs)
  obtain ⟨l1, l2⟩ := h.ok.l
  clear h
  have hl' : (D.left == 0) = false := by simpa using hl
  generalize D.left = lf at *
  clear hl
  go_enter Try.func47, Try.ntmps47
  go_wp2
  all_goals
    go_ret
    refine ⟨rfl, ?_, ((Kp.refl _ _).set (.inl (by simp)) _).set (.inl (by simp)) _⟩
    have := H.out
    rw [show ((D.steps + 1 : Nat) : Int) = (D.steps : Int) + 1 by omega] at this
    first
      | (rw [show max (lf - 1) (-1) = -1 by omega] at this; exact this)
      | (rw [show max (lf - 1) (-1) = lf - 1 by omega] at this; exact this)

theorem size_any (w : World) (base d s : Nat) (v : Value) (D : Dsk) (h : DskA w base d s v D) :
    Calls Try.prog 42 #[.pointer (some ⟨d, 0, none⟩)] w fun e w' => e = .returned (.int .i64 (D.sure.length : Int)) ∧ w = w' := by
  obtain ⟨c0, c1, c2, c3, f1, f2, f3⟩ := dsk_cells h
  clear h
  go_enter Try.func42, Try.ntmps42
  go_wp2
  go_ret
  exact ⟨rfl, rfl⟩
theorem steps_any (w : World) (base d s : Nat) (v : Value) (D : Dsk) (h : DskA w base d s v D) :
    Calls Try.prog 50 #[.pointer (some ⟨d, 0, none⟩)] w fun e w' => e = .returned (.int .i64 (D.steps : Int)) ∧ w = w' := by
  obtain ⟨c0, c1, c2, c3, f1, f2, f3⟩ := dsk_cells h
  clear h
  go_enter Try.func50, Try.ntmps50
  go_wp2
  go_ret
  exact ⟨rfl, rfl⟩
/-- A block of zeros. -/
def zero64 : List UInt8 := List.replicate 64 0
theorem blkC_len' (b : List UInt8) (h : b.length = 64) : (blkC b).length = 64 := by unfold blkC; rw [u8s_length]; exact h
theorem made_blocks (n : Nat) : madeCells (blkC zero64).toArray (n * 64) = sureC (List.replicate n zero64) :=
  made_fl1 (by omega) zero64 (blkC_len' _ (by unfold zero64; rw [List.length_replicate])) n rfl
theorem mk_blocks (n : Nat) (hn : n ≤ 4096) (w : World) : (Instr.makeSlice 91 (.int .i64 (n : Int)) (.int .i64 (n : Int))).run Try.prog w = .ok (.slice (some ⟨w.heap.size, 0, none⟩) n n) (w.alloc (.cells (sureC (List.replicate n zero64)) 99)) := by
  rw [run_mks (P := Try.prog) (t := 91) (k := 64) (bytes := 64) (z := .agg (blkC zero64).toArray) Try.underlying91 (by kernel_rfl) .i64 .i64 n (by omega) (by omega) w]
  rw [show madeCells (Value.agg (blkC zero64).toArray).cells (n * 64) = sureC (List.replicate n zero64) from made_blocks n]

/-- The disk that New makes. -/
def freshD (n : Nat) : Dsk := ⟨List.replicate n zero64, [], 0, -1, n, #[]⟩
theorem new_no (n : Int) (w : World) (h : ¬ (1 ≤ n ∧ n ≤ 4096)) :
    Calls Try.prog 19 #[.int .i64 n] w fun e w' => e = .returned (.tuple #[.pointer none, .int .i64 22]) ∧ w = w' := by
  by_cases h1 : n < 1
  · go_enter Try.func19, Try.ntmps19
    go_wp2
    go_ret2
    exact ⟨rfl, rfl⟩
  · have h2 : 4096 < n := by omega
    clear h
    go_enter Try.func19, Try.ntmps19
    go_wp2
    go_ret2
    exact ⟨rfl, rfl⟩
theorem new_yes (n : Nat) (w : World) (h1 : 1 ≤ n) (h2 : n ≤ 4096) :
    Calls Try.prog 19 #[.int .i64 (n : Int)] w fun e w' => ∃ d s, e = .returned (.tuple #[.pointer (some ⟨d, 0, none⟩), .int .i64 0]) ∧ DskA w' w.heap.size d s (.slice none 0 0) (freshD n) ∧ Below w.heap.size w w' := by
  have k1 := fun w => mk_blocks n h2 w
  go_enter Try.func19, Try.ntmps19
  go_wp2
  go_ret2
  refine ⟨w.heap.size + 1, w.heap.size, rfl, ⟨?_, ?_, ?_, ?_, ?_, ?_, ?_, ?_⟩, ((Below.refl _ _).alloc (Nat.le_refl _) _).alloc (by simp) _⟩
  · have := Blk.new (w.alloc (.cells (sureC (List.replicate n zero64)) 99)) 94 #[.slice (some ⟨w.heap.size, 0, none⟩) n n, .slice none 0 0, .int .i64 0, .int .i64 (-1)]
    simpa [freshD] using this
  · have := (Blk.new w 99 (sureC (List.replicate n zero64))).alloc (.cells #[.slice (some ⟨w.heap.size, 0, none⟩) n n, .slice none 0 0, .int .i64 0, .int .i64 (-1)] 94)
    simpa [freshD] using this
  · exact ⟨rfl, .inl ⟨rfl, rfl⟩⟩
  · simp
  · intro g hg; cases hg
  · simp
  · exact Nat.le_refl _
  · refine ⟨fun x hx => ?_, fun x hx => ?_, ?_, ⟨?_, ?_⟩, ?_, ?_⟩
    · rw [(List.mem_replicate.1 hx).2]; unfold zero64; rw [List.length_replicate]
    · cases hx
    · show (List.replicate n zero64).length ≤ 4096; rw [List.length_replicate]; exact h2
    · exact Int.le_refl _
    · show (-1 : Int) ≤ 9223372036854775807; omega
    · exact Nat.zero_le _
    · exact Nat.zero_le _
end Go.Proofs.Ytfaingklglelnaa
