import Derived.Test.YtlobkefacnedeaaDoorProg
import Derived.Test.YtlobkefacnedeaaDoorJa07
import Derived.Deep.RegionWith
import Derived.Deep.DeepCutAuto
import Derived.Deep.QuietTactic
import Derived.BigQuiet
import Derived.Deep.RegionHeld3
import Derived.Deep.MidRow
import Derived.Deep.WholeRow
import Derived.Maps.AppendAt
import Derived.Laws.Cover3
import Derived.Laws.Tables
import Derived.Great.BuildSlice
import Derived.Great.FillDense
import Derived.Deep.AppendLies
import Derived.Deep.RegionLaw
set_option linter.unusedVariables false
set_option linter.unusedSimpArgs false
/- The walks over package disk: step, New, Size, Steps, Arm. -/
namespace Go.Proofs.YtlobkefacnedeaaDoor
open Go.RowKit
set_option maxRecDepth 100000

abbrev DskA (w : World) (base d s : Nat) (v : Value) (D : Dsk) : Prop := DskM 96 122 124 w base d s v D
theorem dsk_cells {w : World} {base d s : Nat} {v : Value} {D : Dsk} (h : DskA w base d s v D) :
    w.cell? ⟨d, 0, none⟩ = some (.slice (some ⟨s, 0, none⟩) D.sure.length D.cap) ∧ w.cell? ⟨d, 1, none⟩ = some v ∧ w.cell? ⟨d, 2, none⟩ = some (.int .i64 (D.steps : Int)) ∧ w.cell? ⟨d, 3, none⟩ = some (.int .i64 D.left) ∧
    w.frozen? ⟨d, 1, none⟩ = false ∧ w.frozen? ⟨d, 2, none⟩ = false ∧ w.frozen? ⟨d, 3, none⟩ = false :=
  ⟨h.hd.cell 0, h.hd.cell 1, h.hd.cell 2, h.hd.cell 3, h.hd.frozen 1, h.hd.frozen 2, h.hd.frozen 3⟩
/-- The disk behind a step. -/
def Dsk.stepped (D : Dsk) : Dsk := { D with steps := D.steps + 1, left := max (D.left - 1) (-1) }

theorem step_dead (w : World) (base d s : Nat) (v : Value) (D : Dsk) (h : DskA w base d s v D) (hl : D.left = 0) :
    Calls Tryd.prog 71 #[.pointer (some ⟨d, 0, none⟩)] w fun e w' => e = .returned (.int .i64 102) ∧ w = w' := by
  obtain ⟨c0, c1, c2, c3, f1, f2, f3⟩ := dsk_cells h
  rw [hl] at c3
  clear h hl
  go_enter Tryd.func71, Tryd.ntmps71
  go_wp2
  go_ret
  exact ⟨rfl, rfl⟩
theorem DskM.stepped {td tb ti : TypeId} {w : World} {base d s : Nat} {v : Value} {D : Dsk} (h : DskM td tb ti w base d s v D) (hs : D.steps < 1000000) :
    DskM td tb ti ((w.setCell ⟨d, 3, none⟩ (.int .i64 (max (D.left - 1) (-1)))).setCell ⟨d, 2, none⟩ (.int .i64 ((D.steps + 1 : Nat) : Int))) base d s v D.stepped where
  hd := (h.hd.set 3 (.int .i64 (max (D.left - 1) (-1)))).set 2 (.int .i64 ((D.steps + 1 : Nat) : Int))
  hs := (h.hs.far (p := ⟨d, 3, none⟩) h.ne.symm _).far (p := ⟨d, 2, none⟩) h.ne.symm _
  hq := by
    refine ⟨h.hq.1, ?_⟩
    rcases h.hq.2 with h0 | ⟨g, cap, cur, rfl, h2, h3, h4⟩
    · exact .inl h0
    · have hg := (h.nq g rfl).1
      refine .inr ⟨g, cap, cur, rfl, h2, ?_, h4⟩
      exact (Below.heap_setCell _ ⟨d, 2, none⟩ _ g hg).trans ((Below.heap_setCell _ ⟨d, 3, none⟩ _ g hg).trans h3)
  ne := h.ne
  nq := h.nq
  db := h.db
  sb := h.sb
  ok := { h.ok with l := by have := h.ok.l; show -1 ≤ max (D.left - 1) (-1) ∧ max (D.left - 1) (-1) ≤ 9223372036854775807; omega, s := by show D.steps + 1 ≤ 1000000; omega }
theorem step_ok (w : World) (base d s : Nat) (v : Value) (D : Dsk) (h : DskA w base d s v D) (hl : D.left ≠ 0) (hs : D.steps < 1000000) :
    Calls Tryd.prog 71 #[.pointer (some ⟨d, 0, none⟩)] w fun e w' => e = .returned (.int .i64 0) ∧ DskA w' base d s v D.stepped ∧ Kp [d] w w' := by
  obtain ⟨c0, c1, c2, c3, f1, f2, f3⟩ := dsk_cells h
  have H := hide (h.stepped hs)
  obtain ⟨l1, l2⟩ := h.ok.l
  clear h
  have hl' : (D.left == 0) = false := by simpa using hl
  generalize D.left = lf at *
  clear hl
  go_enter Tryd.func71, Tryd.ntmps71
  go_wp2
  all_goals
    go_ret
    refine ⟨rfl, ?_, ((Kp.refl _ _).set (.inl (by simp)) _).set (.inl (by simp)) _⟩
    have := H.out
    rw [show ((D.steps + 1 : Nat) : Int) = (D.steps : Int) + 1 by omega] at this
    first
      | (rw [show max (lf - 1) (-1) = -1 by omega] at this; exact this)
      | (rw [show max (lf - 1) (-1) = lf - 1 by omega] at this; exact this)

theorem dsize_any (w : World) (base d s : Nat) (v : Value) (D : Dsk) (h : DskA w base d s v D) :
    Calls Tryd.prog 38 #[.pointer (some ⟨d, 0, none⟩)] w fun e w' => e = .returned (.int .i64 (D.sure.length : Int)) ∧ w = w' := by
  obtain ⟨c0, c1, c2, c3, f1, f2, f3⟩ := dsk_cells h
  clear h
  go_enter Tryd.func38, Tryd.ntmps38
  go_wp2
  go_ret
  exact ⟨rfl, rfl⟩
theorem steps_any (w : World) (base d s : Nat) (v : Value) (D : Dsk) (h : DskA w base d s v D) :
    Calls Tryd.prog 34 #[.pointer (some ⟨d, 0, none⟩)] w fun e w' => e = .returned (.int .i64 (D.steps : Int)) ∧ w = w' := by
  obtain ⟨c0, c1, c2, c3, f1, f2, f3⟩ := dsk_cells h
  clear h
  go_enter Tryd.func34, Tryd.ntmps34
  go_wp2
  go_ret
  exact ⟨rfl, rfl⟩
/-- A block of zeros. -/
def zero64 : List UInt8 := List.replicate 64 0
theorem blkC_len' (b : List UInt8) (h : b.length = 64) : (blkC b).length = 64 := by unfold blkC; rw [u8s_length]; exact h
theorem made_blocks (n : Nat) : madeCells (blkC zero64).toArray (n * 64) = sureC (List.replicate n zero64) :=
  made_fl1 (by omega) zero64 (blkC_len' _ (by unfold zero64; rw [List.length_replicate])) n rfl
theorem mk_blocks (n : Nat) (hn : n ≤ 4096) (w : World) : (Instr.makeSlice 93 (.int .i64 (n : Int)) (.int .i64 (n : Int))).run Tryd.prog w = .ok (.slice (some ⟨w.heap.size, 0, none⟩) n n) (w.alloc (.cells (sureC (List.replicate n zero64)) 122)) := by
  rw [run_mks (P := Tryd.prog) (t := 93) (k := 64) (bytes := 64) (z := .agg (blkC zero64).toArray) Tryd.underlying93 (by kernel_rfl) .i64 .i64 n (by omega) (by omega) w]
  rw [show madeCells (Value.agg (blkC zero64).toArray).cells (n * 64) = sureC (List.replicate n zero64) from made_blocks n]

/-- The disk that New makes. -/
def freshD (n : Nat) : Dsk := ⟨List.replicate n zero64, [], 0, -1, n, #[]⟩
theorem new_no (n : Int) (w : World) (h : ¬ (1 ≤ n ∧ n ≤ 4096)) :
    Calls Tryd.prog 11 #[.int .i64 n] w fun e w' => e = .returned (.tuple #[.pointer none, .int .i64 22]) ∧ w = w' := by
  by_cases h1 : n < 1
  · go_enter Tryd.func11, Tryd.ntmps11
    go_wp2
    go_ret2
    exact ⟨rfl, rfl⟩
  · have h2 : 4096 < n := by omega
    clear h
    go_enter Tryd.func11, Tryd.ntmps11
    go_wp2
    go_ret2
    exact ⟨rfl, rfl⟩
theorem new_yes (n : Nat) (w : World) (h1 : 1 ≤ n) (h2 : n ≤ 4096) :
    Calls Tryd.prog 11 #[.int .i64 (n : Int)] w fun e w' => ∃ d s, e = .returned (.tuple #[.pointer (some ⟨d, 0, none⟩), .int .i64 0]) ∧ DskA w' w.heap.size d s (.slice none 0 0) (freshD n) ∧ Below w.heap.size w w' := by
  have k1 := fun w => mk_blocks n h2 w
  go_enter Tryd.func11, Tryd.ntmps11
  go_wp2
  go_ret2
  refine ⟨w.heap.size + 1, w.heap.size, rfl, ⟨?_, ?_, ?_, ?_, ?_, ?_, ?_, ?_⟩, ((Below.refl _ _).alloc (Nat.le_refl _) _).alloc (by simp) _⟩
  · have := Blk.new (w.alloc (.cells (sureC (List.replicate n zero64)) 122)) 96 #[.slice (some ⟨w.heap.size, 0, none⟩) n n, .slice none 0 0, .int .i64 0, .int .i64 (-1)]
    simpa [freshD] using this
  · have := (Blk.new w 122 (sureC (List.replicate n zero64))).alloc (.cells #[.slice (some ⟨w.heap.size, 0, none⟩) n n, .slice none 0 0, .int .i64 0, .int .i64 (-1)] 96)
    simpa [freshD] using this
  · exact ⟨rfl, .inl ⟨rfl, rfl⟩⟩
  · simp
  · intro g hg; cases hg
  · simp
  · exact Nat.le_refl _
  · refine ⟨fun x hx => ?_, fun x hx => ?_, ?_, ⟨?_, ?_⟩, ?_, ?_⟩
    · rw [(List.mem_replicate.1 hx).2]; unfold zero64; rw [List.length_replicate]
    · cases hx
    · show (List.replicate n zero64).length ≤ 4096; rw [List.length_replicate]; exact h2
    · exact Int.le_refl _
    · show (-1 : Int) ≤ 9223372036854775807; omega
    · exact Nat.zero_le _
    · exact Nat.zero_le _
end Go.Proofs.YtlobkefacnedeaaDoor

/- The walks over package disk: Arm, Read's refusals, and where a block and a write lie. -/
namespace Go.Proofs.YtlobkefacnedeaaDoor
open Go.RowKit
set_option maxRecDepth 100000

theorem dsk_kp {w w' : World} {base d s : Nat} {v : Value} {D : Dsk} (h : DskA w base d s v D) {gs : List Nat} (k : Kp gs w w') (hd : d ∉ gs) (hs : s ∉ gs) (hv : ∀ g, v.ownBlock = some g → g ∉ gs) : DskA w' base d s v D where
  hd := h.hd.kp k hd
  hs := h.hs.kp k hs
  hq := by
    refine ⟨h.hq.1, ?_⟩
    rcases h.hq.2 with h0 | ⟨g, cap, cur, rfl, h2, h3, h4⟩
    · exact .inl h0
    · have hl : g < w.heap.size := by
        rcases Nat.lt_or_ge g w.heap.size with hl | hg
        · exact hl
        · rw [Array.getElem?_eq_none hg] at h3; cases h3
      exact .inr ⟨g, cap, cur, rfl, h2, (k.block g hl (hv g rfl)).trans h3, h4⟩
  ne := h.ne
  nq := h.nq
  db := h.db
  sb := h.sb
  ok := h.ok
/-- A sure block lies there, byte by byte. -/
theorem fl_mid {α : Type} {f : α → List Value} {k : Nat} (xs : List α) (hk : ∀ x ∈ xs, (f x).length = k) (i : Nat) (x : α) (hx : xs[i]? = some x) (j : Nat) (v : Value) (hv : (f x)[j]? = some v) : (xs.flatMap f)[i * k + j]? = some v := by
  induction xs generalizing i with
  | nil => simp at hx
  | cons y xs ih =>
    have hy := hk y (by simp)
    rw [List.flatMap_cons]
    cases i with
    | zero =>
      simp only [List.getElem?_cons_zero, Option.some.injEq] at hx
      subst hx
      rw [Nat.zero_mul, Nat.zero_add, List.getElem?_append_left (List.getElem?_eq_some_iff.1 hv).1]
      exact hv
    | succ i =>
      rw [List.getElem?_append_right (by rw [hy, Nat.succ_mul]; omega), hy, show (i + 1) * k + j - k = i * k + j by rw [Nat.succ_mul]; omega]
      exact ih (fun z hz => hk z (by simp [hz])) i (by simpa using hx)
theorem get_app_left {a b : Array Value} {i : Nat} {v : Value} (h : a[i]? = some v) : (a ++ b)[i]? = some v := by
  rw [Array.getElem?_append_left (Array.getElem?_eq_some_iff.1 h).1]; exact h
theorem at_sure {w : World} {base d s : Nat} {v : Value} {D : Dsk} (h : DskA w base d s v D) (i : Nat) (b : List UInt8) (hb : D.sure[i]? = some b) : w.rangeAt s (i * 64) (u8s b) := fun j u hu => by
  rw [h.hs.cell]
  refine get_app_left ?_
  have := fl_mid (f := blkC) (k := 64) D.sure (fun x hx => by unfold blkC; rw [u8s_length]; exact h.ok.b x hx) i b hb j u hu
  simpa [sureC, fl] using this
theorem at_queue {w : World} {base d s : Nat} {v : Value} {D : Dsk} (h : DskA w base d s v D) (i : Nat) (x : Nat × List UInt8) (hx : D.queue[i]? = some x) : ∃ g c, v = .slice (some ⟨g, 0, none⟩) D.queue.length c ∧ w.rangeAt g (i * 65) (wrC x) := by
  have hi := (List.getElem?_eq_some_iff.1 hx).1
  rcases h.hq.2 with ⟨_, h0⟩ | ⟨g, cap, cur, rfl, h2, h3, h4, h5, h6, h7⟩
  · omega
  · refine ⟨g, cap, rfl, fun j u hu => ?_⟩
    have e := fl_mid (f := wrC) (k := 65) D.queue (fun y hy => by unfold wrC; rw [List.length_cons, u8s_length, (h.ok.q y hy).1]) i x hx j u hu
    rw [cell_of_row w g (i * 65 + j) cur _ (0, 0) h3]
    have e2 : (cur.toList.take (D.queue.length * 65))[i * 65 + j]? = some u := by rw [h7]; exact e
    rw [List.getElem?_take] at e2
    split at e2
    · simpa using e2
    · cases e2

theorem arm_no (w : World) (base d s : Nat) (v : Value) (D : Dsk) (n : Int) (h : DskA w base d s v D) (hn : n < 0) :
    Calls Tryd.prog 26 #[.pointer (some ⟨d, 0, none⟩), .int .i64 n] w fun e w' => e = .returned (.int .i64 22) ∧ w = w' := by
  clear h
  go_enter Tryd.func26, Tryd.ntmps26
  go_wp2
  go_ret
  exact ⟨rfl, rfl⟩
theorem arm_dead (w : World) (base d s : Nat) (v : Value) (D : Dsk) (n : Int) (h : DskA w base d s v D) (hn : ¬ n < 0) (hl : D.left = 0) :
    Calls Tryd.prog 26 #[.pointer (some ⟨d, 0, none⟩), .int .i64 n] w fun e w' => e = .returned (.int .i64 102) ∧ w = w' := by
  obtain ⟨c0, c1, c2, c3, f1, f2, f3⟩ := dsk_cells h
  rw [hl] at c3
  clear h hl
  go_enter Tryd.func26, Tryd.ntmps26
  go_wp2
  go_ret
  exact ⟨rfl, rfl⟩
theorem DskM.armed {td tb ti : TypeId} {w : World} {base d s : Nat} {v : Value} {D : Dsk} (h : DskM td tb ti w base d s v D) (n : Int) (h0 : 0 ≤ n) (h1 : n ≤ 9223372036854775807) :
    DskM td tb ti (w.setCell ⟨d, 3, none⟩ (.int .i64 n)) base d s v { D with left := n } where
  hd := h.hd.set 3 (.int .i64 n)
  hs := h.hs.far (p := ⟨d, 3, none⟩) h.ne.symm _
  hq := by
    refine ⟨h.hq.1, ?_⟩
    rcases h.hq.2 with h0 | ⟨g, cap, cur, rfl, h2, h3, h4⟩
    · exact .inl h0
    · exact .inr ⟨g, cap, cur, rfl, h2, (Below.heap_setCell _ ⟨d, 3, none⟩ _ g (h.nq g rfl).1).trans h3, h4⟩
  ne := h.ne
  nq := h.nq
  db := h.db
  sb := h.sb
  ok := { h.ok with l := by show -1 ≤ n ∧ n ≤ 9223372036854775807; omega }
theorem arm_ok (w : World) (base d s : Nat) (v : Value) (D : Dsk) (n : Int) (h : DskA w base d s v D) (h0 : 0 ≤ n) (h1 : n ≤ 9223372036854775807) (hl : D.left ≠ 0) :
    Calls Tryd.prog 26 #[.pointer (some ⟨d, 0, none⟩), .int .i64 n] w fun e w' => e = .returned (.int .i64 0) ∧ DskA w' base d s v { D with left := n } ∧ Kp [d] w w' := by
  obtain ⟨c0, c1, c2, c3, f1, f2, f3⟩ := dsk_cells h
  have H := hide (h.armed n h0 h1)
  obtain ⟨l1, l2⟩ := h.ok.l
  clear h
  have hl' : (D.left == 0) = false := by simpa using hl
  generalize D.left = lf at *
  clear hl
  go_enter Tryd.func26, Tryd.ntmps26
  go_wp2
  go_ret
  exact ⟨rfl, H.out, (Kp.refl _ _).set (.inl (by simp)) _⟩

theorem read_no (w : World) (base d s : Nat) (v : Value) (D : Dsk) (i : Int) (h : DskA w base d s v D) (hi : ¬ (0 ≤ i ∧ i < D.sure.length)) :
    Calls Tryd.prog 24 #[.pointer (some ⟨d, 0, none⟩), .int .i64 i] w fun e w' => e = .returned (.tuple #[.slice none 0 0, .int .i64 22]) ∧ w = w' := by
  obtain ⟨c0, c1, c2, c3, f1, f2, f3⟩ := dsk_cells h
  clear h
  by_cases h1 : i < 0
  · clear hi
    go_enter Tryd.func24, Tryd.ntmps24
    go_wp2
    go_ret2
    exact ⟨rfl, rfl⟩
  · have h2 : (D.sure.length : Int) ≤ i := by omega
    clear hi
    go_enter Tryd.func24, Tryd.ntmps24
    go_wp2
    go_ret2
    exact ⟨rfl, rfl⟩
end Go.Proofs.YtlobkefacnedeaaDoor

/- The walk over disk.Read. -/
namespace Go.Proofs.YtlobkefacnedeaaDoor
open Go.RowKit
set_option maxRecDepth 100000

/-- What a block reads as. -/
def readQ (q : List (Nat × List UInt8)) (i : Nat) (b : List UInt8) : List UInt8 := q.foldl (fun b x => if x.1 = i then x.2 else b) b
def Dsk.read (D : Dsk) (i : Nat) : List UInt8 := readQ D.queue i (D.sure.getD i [])

theorem ld_mid (w : World) (b o n : Nat) (cs : List Value) (hn : cs.length = n) (h : w.rangeAt b o cs) : (loadCellsFrom ⟨b, o, none⟩ 0 n #[]).run Tryd.prog w = .ok cs.toArray w := by
  subst hn
  have := run_loadCells_list (P := Tryd.prog) w ⟨b, o, none⟩ cs (fun j v hv => by rw [Addr.add_mid]; exact h j v hv)
  simpa [loadCells] using this
theorem blk_zero : (∀ w, (zeroValue 122).run Tryd.prog w = .ok (.agg (u8s zero64).toArray) w) := (zero_of_info (P := Tryd.prog) (t := 122) (v := .agg (u8s zero64).toArray) (n := 64) (by kernel_rfl)).1
theorem wr_zero : (∀ w, (zeroValue 124).run Tryd.prog w = .ok (.agg (wrC (0, zero64)).toArray) w) := (zero_of_info (P := Tryd.prog) (t := 124) (v := .agg (wrC (0, zero64)).toArray) (n := 65) (by kernel_rfl)).1
theorem u8s_one2 (x : List UInt8) : (u8s x).toArray.all (·.oneCell') = true := all_oneCell_toArray (fun v hv => by
  simp only [u8s, List.mem_map] at hv
  obtain ⟨a, _, rfl⟩ := hv
  rfl)
theorem wrC_one (x : Nat × List UInt8) : (wrC x).toArray.all (·.oneCell') = true := all_oneCell_toArray (fun v hv => by
  simp only [wrC, u8s, List.mem_cons, List.mem_map] at hv
  rcases hv with rfl | ⟨a, _, rfl⟩ <;> rfl)
theorem st_blk (w : World) (x y : List UInt8) (hx : x.length = 64) (hy : y.length = 64) : (storeCells ⟨w.heap.size, 0, none⟩ (u8s x) 0).run Tryd.prog (w.alloc (.cells (u8s y).toArray 122)) = .ok () (w.alloc (.cells (u8s x).toArray 122)) :=
  run_storeCells_new w _ _ (u8s x).toArray (by rw [List.size_toArray, u8s_length, hx]; kernel_rfl) (by simp [u8s_length, hx, hy]) (u8s_one2 x)
theorem st_wr (w : World) (x y : Nat × List UInt8) (hx : x.2.length = 64) (hy : y.2.length = 64) : (storeCells ⟨w.heap.size, 0, none⟩ (wrC x) 0).run Tryd.prog (w.alloc (.cells (wrC y).toArray 124)) = .ok () (w.alloc (.cells (wrC x).toArray 124)) :=
  run_storeCells_new w _ _ (wrC x).toArray (by rw [List.size_toArray, wrC, List.length_cons, u8s_length, hx]; kernel_rfl) (by simp [wrC, u8s_length, hx, hy]) (wrC_one x)

theorem bel_row {B : Nat} {a w : World} (h : Below B a w) {g : Nat} (hg : B ≤ g) (cs : Array Value) : Below B a (w.setRow g cs) :=
  ⟨h.os, h.tape, h.output, by simpa [World.setRow] using h.size, fun i hi => by
    rw [← h.block i hi]
    have : g ≠ i := by omega
    simp [World.setRow, Array.getElem?_modify, this]⟩
theorem dsk_slice {w : World} {base d s : Nat} {v : Value} {D : Dsk} (h : DskA w base d s v D) : ∃ A c, v = .slice A D.queue.length c ∧ ∀ i x, D.queue[i]? = some x → ∃ g, A = some ⟨g, 0, none⟩ ∧ w.rangeAt g (i * 65) (wrC x) := by
  rcases h.hq.2 with ⟨h0, hn⟩ | ⟨g, cap, cur, h1, h2⟩
  · exact ⟨none, 0, by rw [hn]; exact h0, fun i x hx => by
      have := (List.getElem?_eq_some_iff.1 hx).1
      omega⟩
  · refine ⟨some ⟨g, 0, none⟩, cap, h1, fun i x hx => ⟨g, rfl, ?_⟩⟩
    obtain ⟨g', c', e, hr⟩ := at_queue h i x hx
    rw [h1] at e
    injection e with e1 e2 e3
    injection e1 with e1
    injection e1 with e1
    rw [e1]; exact hr
theorem readQ_step (q : List (Nat × List UInt8)) (i j : Nat) (b : List UInt8) (x : Nat × List UInt8) (hx : q[j]? = some x) : readQ (q.take (j + 1)) i b = if x.1 = i then x.2 else readQ (q.take j) i b := by
  unfold readQ
  rw [List.take_add_one, hx, List.foldl_append]
  rfl
theorem readQ_len (q : List (Nat × List UInt8)) (i : Nat) (b : List UInt8) (hb : b.length = 64) (hq : ∀ x ∈ q, x.2.length = 64) : (readQ q i b).length = 64 := by
  induction q generalizing b with
  | nil => exact hb
  | cons x q ih =>
    show (readQ q i (if x.1 = i then x.2 else b)).length = 64
    refine ih _ ?_ (fun y hy => hq y (by simp [hy]))
    split
    · exact hq x (by simp)
    · exact hb

theorem run_row {P : Program} (w : World) (g : Nat) (t : TypeId) (old c' : Array Value) (hg : w.heap[g]? = some (.cells old t (0, 0))) (hi : (P.info? t).map (·.size) = some c'.size) (ho : old.size = c'.size) (h1 : c'.all (·.oneCell') = true) :
    (storeCells ⟨g, 0, none⟩ c'.toList 0).run P w = .ok () (w.setRow g c') := by
  have := run_storeVar_row (P := P) w g t t old c' hg hi ho h1
  cases hq : P.info? t with
  | none => simp [hq] at hi
  | some i =>
    have hs : c'.size = i.size := by simp [hq] at hi; omega
    simpa [storeVar, sizeOf, typeInfo, hq, Value.cells, hs] using this
theorem st_row (w : World) (g : Nat) (x y : List UInt8) (hx : x.length = 64) (hy : y.length = 64) (hg : Blk w g 122 (u8s y).toArray) : (storeCells ⟨g, 0, none⟩ (u8s x) 0).run Tryd.prog w = .ok () (w.setRow g (u8s x).toArray) :=
  run_row w g _ _ (u8s x).toArray hg (by rw [List.size_toArray, u8s_length, hx]; kernel_rfl) (by simp [u8s_length, hx, hy]) (u8s_one2 x)

/-- Sizes and zero values, kept whole in a walk. -/
def szK_read_yes : Sem Nat := sizeOf 122
theorem szK_read_yes_keep : sizeOf 122 = szK_read_yes := rfl
def zvK_read_yes : Sem Value := zeroValue 122
theorem zvK_read_yes_keep : zeroValue 122 = zvK_read_yes := rfl
def szL_read_yes : Sem Nat := sizeOf 124
theorem szL_read_yes_keep : sizeOf 124 = szL_read_yes := rfl
attribute [local go_sem ↓] szK_read_yes_keep zvK_read_yes_keep szL_read_yes_keep in
theorem read_yes (w : World) (base d s : Nat) (v : Value) (D : Dsk) (i : Nat) (h : DskA w base d s v D) (hi : i < D.sure.length) :
    Calls Tryd.prog 24 #[.pointer (some ⟨d, 0, none⟩), .int .i64 (i : Int)] w fun e w' => ∃ g, e = .returned (.tuple #[.slice (some ⟨g, 0, none⟩) 64 64, .int .i64 0]) ∧ w.heap.size ≤ g ∧ Blk w' g 122 (u8s (D.read i)).toArray ∧ Below w.heap.size w w' := by
  obtain ⟨c0, c1, c2, c3, f1, f2, f3⟩ := dsk_cells h
  have hb := List.getElem?_eq_getElem hi
  have kz : ∀ w, zvK_read_yes.run Tryd.prog w = .ok (.agg (u8s zero64).toArray) w := blk_zero
  have kz' := wr_zero
  obtain ⟨k, hk⟩ : ∃ k, k = 64 := ⟨_, rfl⟩
  have ks : ∀ w, szK_read_yes.run Tryd.prog w = .ok k w := fun w => by rw [hk]; exact Tryd.sizeOf122 w
  obtain ⟨k', hk'⟩ : ∃ k, k = 65 := ⟨_, rfl⟩
  have ks' : ∀ w, szL_read_yes.run Tryd.prog w = .ok k' w := fun w => by rw [hk']; exact Tryd.sizeOf124 w
  have hb64 := h.ok.b _ (List.getElem_mem hi)
  have hsz : (u8s D.sure[i]).length = k := by rw [u8s_length, hk]; exact hb64
  have K := hide (And.intro hk hk')
  have hk0 : ¬ k = 0 := by omega
  have k2 := st_blk w D.sure[i] zero64 hb64 (by unfold zero64; rw [List.length_replicate])
  have k1 := ld_mid w s (i * k) k _ hsz (by rw [hk]; exact at_sure h i _ hb)
  have H := hide h
  have hn := h.ok.n
  have hq := hide h.ok.q
  have hqn := h.ok.qn
  obtain ⟨A, c, rfl, hA⟩ := dsk_slice h
  have HA := hide hA
  have cA : (w.alloc (.cells (u8s D.sure[i]).toArray 122)).cell? ⟨d, 1, none⟩ = some (.slice A D.queue.length c) := (h.hd.alloc _).cell 1
  have hread : D.read i = readQ D.queue i D.sure[i] := by unfold Dsk.read; rw [List.getD_eq_getElem?_getD, hb]; rfl
  rw [hread]
  have HB := hide hb64
  generalize D.sure[i] = b0 at *
  clear hk hk' h hA hread hb hb64
  go_enter Tryd.func24, Tryd.ntmps24
  go_upto_region 5 with fail
  go_loopw [32] (fun x wr => ∃ j : Nat, j ≤ D.queue.length ∧ x = .int .i64 (j : Int) ∧ Blk wr w.heap.size 122 (u8s (readQ (D.queue.take j) i b0)).toArray ∧ Below w.heap.size w wr) (fun x _ => D.queue.length - (intOf x).toNat)
  case atStart => exact ⟨0, Nat.zero_le _, rfl, Blk.new w _ _, (Below.refl _ _).alloc (Nat.le_refl _) _⟩
  case round =>
    obtain ⟨j, hj, rfl, h1, h2⟩ := hrel
    have H1 := hide h1
    have H2 := hide h2
    clear h1 h2 k1 k2 cA
    by_cases hlt : j < D.queue.length
    · have hx := List.getElem?_eq_getElem hlt
      obtain ⟨x, hx'⟩ : ∃ x, x = D.queue[j] := ⟨_, rfl⟩
      rw [← hx'] at hx
      have hxl := (hq.out x (List.mem_of_getElem? hx)).1
      have Dr := dsk_kp H.out (Kp.of_below (gs := []) H2.out) (by simp) (by simp) (by simp)
      obtain ⟨g, hAg, -⟩ := HA.out j x hx
      subst hAg
      obtain ⟨g', c', e, hr⟩ := at_queue Dr j x hx
      injection e with e1
      injection e1 with e1
      injection e1 with e1
      subst e1
      obtain ⟨hk, hk'⟩ := K.out
      have hwl : (wrC x).length = k' := by rw [wrC, List.length_cons, u8s_length, hxl, hk']
      have k3 := ld_mid wr g (j * k') k' _ hwl (by rw [hk']; exact hr)
      have k4 := st_wr wr x (0, zero64) hxl (by unfold zero64; rw [List.length_replicate])
      have k5 : (wr.alloc (.cells (wrC x).toArray 124)).cell? ⟨wr.heap.size, 0, none⟩ = some (.int .i64 (x.1 : Int)) := (Blk.new wr _ _).cell 0
      have k6 := ld_mid (wr.alloc (.cells (wrC x).toArray 124)) wr.heap.size 1 k (u8s x.2) (by rw [u8s_length, hxl, hk]) (fun n u hu => by
        rw [(Blk.new wr _ _).cell, Nat.add_comm]
        simpa [wrC] using hu)
      have hxk : (u8s x.2).length = k := by rw [u8s_length, hxl, hk]
      have k7 : (storeCells ⟨w.heap.size, 0, none⟩ (u8s x.2) 0).run Tryd.prog (wr.alloc (.cells (wrC x).toArray 124)) = .ok () ((wr.alloc (.cells (wrC x).toArray 124)).setRow w.heap.size (u8s x.2).toArray) :=
        st_row _ _ _ _ hxl (readQ_len _ i b0 HB.out (fun y hy => (hq.out y (List.mem_of_mem_take hy)).1)) (H1.out.alloc _)
      have hst := hide (readQ_step D.queue i j b0 x hx)
      have hbl := hide ((H1.out.alloc (.cells (wrC x).toArray 124)))
      have hbe := hide (H2.out.alloc (Nat.le_of_lt H1.out.lt) (.cells (wrC x).toArray 124))
      clear hk hk' Dr hr hx' hx
      generalize D.queue[j] = dq at *
      by_cases hxi : x.1 = i
      · go_wp2_with fail
        go_roundw
        case rel =>
          refine ⟨j + 1, by omega, by go_num, ?_, bel_row hbe.out (Nat.le_refl _) _⟩
          rw [hst.out, if_pos hxi]
          exact setRow_heap _ _ _ _ _ _ hbl.out
        case measure => simp [intOf]; omega
      · go_wp2_with fail
        go_roundw
        case rel =>
          refine ⟨j + 1, by omega, by go_num, ?_, hbe.out⟩
          rw [hst.out, if_neg hxi]
          exact hbl.out
        case measure => simp [intOf]; omega
    · have hjn : j = D.queue.length := by omega
      have HL : Hid (Blk wr w.heap.size 122 (u8s (readQ D.queue i b0)).toArray) := by
        have := H1.out
        rw [hjn, List.take_length] at this
        exact hide this
      clear hjn
      go_wp2_with fail
      go_ret2
      exact ⟨_, rfl, Nat.le_refl _, HL.out, H2.out⟩
end Go.Proofs.YtlobkefacnedeaaDoor

/- A block stored in the middle of the sure ones. -/
namespace Go.Proofs.YtlobkefacnedeaaDoor
open Go.RowKit
set_option maxRecDepth 100000

theorem setCells_list {α : Type} (v : α) (r cs : List α) (o : Nat) (h : o < cs.length) : (cs.set o v).take (o + 1) ++ r ++ (cs.set o v).drop (o + 1 + r.length) = cs.take o ++ (v :: r) ++ cs.drop (o + (v :: r).length) := by
  rw [List.drop_set_of_lt (by omega), List.length_cons, show o + (r.length + 1) = o + 1 + r.length by omega]
  congr 1
  rw [List.take_add_one, List.getElem?_set_self h, List.take_set_of_le (Nat.le_refl _)]
  simp
theorem Blk.sets {g : Nat} {t : TypeId} : ∀ (vs : List Value) (o : Nat) (w : World) (cs : Array Value), Blk w g t cs → o + vs.length ≤ cs.size → Blk (w.setCells g o vs) g t (cs.toList.take o ++ vs ++ cs.toList.drop (o + vs.length)).toArray
  | [], o, w, cs, h, _ => by simpa [World.setCells] using h
  | v :: r, o, w, cs, h, hl => by
    rw [World.setCells]
    have hl' : o + (r.length + 1) ≤ cs.size := hl
    have := Blk.sets r (o + 1) _ _ (h.set o v) (by simp; omega)
    rw [Array.toList_setIfInBounds, setCells_list v r cs.toList o (by simp; omega)] at this
    exact this
theorem Kp.sets {gs : List Nat} {a : World} {g : Nat} (hg : g ∈ gs) : ∀ (vs : List Value) (o : Nat) (w : World), Kp gs a w → Kp gs a (w.setCells g o vs)
  | [], _, _, h => by simpa [World.setCells] using h
  | v :: r, o, w, h => by
    rw [World.setCells]
    exact Kp.sets hg r (o + 1) _ (h.set (.inl hg) v)
theorem heap_sets {g g' : Nat} (hg : g' ≠ g) : ∀ (vs : List Value) (o : Nat) (w : World), (w.setCells g o vs).heap[g']? = w.heap[g']?
  | [], _, _ => by simp [World.setCells]
  | v :: r, o, w => by
    rw [World.setCells, heap_sets hg r (o + 1)]
    exact Below.heap_setCell w ⟨g, o, none⟩ v g' hg
theorem flat_put {α β : Type} {f : α → List β} {k : Nat} (xs : List α) (hk : ∀ x ∈ xs, (f x).length = k) (i : Nat) (hi : i < xs.length) (b : α) (hb : (f b).length = k) :
    (xs.flatMap f).take (i * k) ++ f b ++ (xs.flatMap f).drop (i * k + (f b).length) = (xs.set i b).flatMap f := by
  induction xs generalizing i with
  | nil => simp at hi
  | cons x xs ih =>
    have hx := hk x (by simp)
    cases i with
    | zero =>
      simp only [List.flatMap_cons, List.set_cons_zero, Nat.zero_mul, List.take_zero, List.nil_append, Nat.zero_add]
      rw [hb, ← hx, List.drop_left]
    | succ i =>
      have := ih (fun y hy => hk y (by simp [hy])) i (by simpa using hi)
      simp only [List.flatMap_cons, List.set_cons_succ]
      rw [show (i + 1) * k = (f x).length + i * k by rw [hx, Nat.succ_mul]; omega, List.take_length_add_append, Nat.add_assoc, List.drop_length_add_append, ← this]
      simp only [List.append_assoc]
theorem sureC_size (l : List (List UInt8)) (hl : ∀ x ∈ l, x.length = 64) : (sureC l).size = l.length * 64 := by
  have : ∀ l : List (List UInt8), (∀ x ∈ l, x.length = 64) → (l.flatMap blkC).length = l.length * 64 := by
    intro l
    induction l with
    | nil => intro _; rfl
    | cons x l ih =>
      intro h
      have hx := h x (by simp)
      have := ih (fun y hy => h y (by simp [hy]))
      simp only [List.flatMap_cons, List.length_append, blkC, u8s_length, hx, List.length_cons, Nat.succ_mul] at this ⊢
      omega
  simpa [sureC, fl] using this l hl
theorem sure_put {w : World} {s i : Nat} {t : TypeId} {l : List (List UInt8)} {pad : Array Value} (h : Blk w s t (sureC l ++ pad)) (hl : ∀ x ∈ l, x.length = 64) (hi : i < l.length) (b : List UInt8) (hb : b.length = 64) : Blk (w.setCells s (i * 64) (u8s b)) s t (sureC (l.set i b) ++ pad) := by
  have hsz := sureC_size l hl
  have hlen : (l.flatMap blkC).length = l.length * 64 := by simpa [sureC, fl] using hsz
  have := Blk.sets (u8s b) (i * 64) w _ h (by rw [u8s_length, hb, Array.size_append, hsz]; omega)
  have e := flat_put (f := blkC) (k := 64) l (fun x hx => by unfold blkC; rw [u8s_length]; exact hl x hx) i hi b (by unfold blkC; rw [u8s_length]; exact hb)
  have e2 : (sureC l ++ pad).toList = l.flatMap blkC ++ pad.toList := by simp [sureC, fl]
  rw [e2, List.take_append_of_le_length (by omega), List.drop_append_of_le_length (by rw [u8s_length, hb]; omega), ← List.append_assoc] at this
  have e3 : (l.set i b).flatMap blkC = (l.flatMap blkC).take (i * 64) ++ u8s b ++ (l.flatMap blkC).drop (i * 64 + (u8s b).length) := e.symm
  have e4 : sureC (l.set i b) ++ pad = ((l.set i b).flatMap blkC ++ pad.toList).toArray := by simp [sureC, fl]
  rw [e4, e3]
  exact this
end Go.Proofs.YtlobkefacnedeaaDoor

/- The walk over disk.Barrier. -/
namespace Go.Proofs.YtlobkefacnedeaaDoor
open Go.RowKit
set_option maxRecDepth 100000

/-- The sure blocks when the queue's writes are put. -/
def putQ (q : List (Nat × List UInt8)) (l : List (List UInt8)) : List (List UInt8) := q.foldl (fun l x => l.set x.1 x.2) l
theorem putQ_step (q : List (Nat × List UInt8)) (j : Nat) (l : List (List UInt8)) (x : Nat × List UInt8) (hx : q[j]? = some x) : putQ (q.take (j + 1)) l = (putQ (q.take j) l).set x.1 x.2 := by
  unfold putQ
  rw [List.take_add_one, hx, List.foldl_append]
  rfl
theorem putQ_len (q : List (Nat × List UInt8)) (l : List (List UInt8)) : (putQ q l).length = l.length := by
  induction q generalizing l with
  | nil => rfl
  | cons x q ih => show (putQ q (l.set x.1 x.2)).length = _; rw [ih, List.length_set]
theorem putQ_64 (q : List (Nat × List UInt8)) (l : List (List UInt8)) (hq : ∀ x ∈ q, x.2.length = 64) (hl : ∀ b ∈ l, b.length = 64) : ∀ b ∈ putQ q l, b.length = 64 := by
  induction q generalizing l with
  | nil => exact hl
  | cons x q ih =>
    refine ih _ (fun y hy => hq y (by simp [hy])) (fun b hb => ?_)
    rcases List.mem_or_eq_of_mem_set hb with h | h
    · exact hl b h
    · rw [h]; exact hq x (by simp)
theorem st_mid (w : World) (s o : Nat) (x : List UInt8) (hx : w.there s o (u8s x).length) : (storeCells ⟨s, o, none⟩ (u8s x) 0).run Tryd.prog w = .ok () (w.setCells s o (u8s x)) := by
  have := run_storeCells_cells (P := Tryd.prog) s o (u8s x) 0 w (fun j hj => by simpa using (hx j (by simpa using hj)).1) (fun j hj => by simpa using (hx j (by simpa using hj)).2) (fun v hv => u8s_one x v hv)
  simpa using this
theorem there_blk {w : World} {g : Nat} {t : TypeId} {cs : Array Value} (h : Blk w g t cs) (o n : Nat) (hn : o + n ≤ cs.size) : w.there g o n := fun j hj => by
  refine ⟨?_, h.frozen _⟩
  rw [h.cell, Array.getElem?_eq_getElem (by omega)]
  rfl
end Go.Proofs.YtlobkefacnedeaaDoor

/- The walk over disk.Barrier, the whole. -/
namespace Go.Proofs.YtlobkefacnedeaaDoor
open Go.RowKit
set_option maxRecDepth 100000

theorem range_kp {w w' : World} {g o : Nat} {cs : List Value} (h : w.rangeAt g o cs) (e : w'.heap[g]? = w.heap[g]?) : w'.rangeAt g o cs := fun j v hv => by
  have := h j v hv
  simpa [World.cell?, e] using this
/-- The disk behind a barrier. -/
def Dsk.barred (D : Dsk) : Dsk := { D.stepped with sure := putQ D.queue D.sure, queue := [] }
theorem barrier_dead (w : World) (base d s : Nat) (v : Value) (D : Dsk) (h : DskA w base d s v D) (hl : D.left = 0) :
    Calls Tryd.prog 42 #[.pointer (some ⟨d, 0, none⟩)] w fun e w' => e = .returned (.int .i64 102) ∧ w = w' := by
  have H := hide h
  clear h
  go_enter Tryd.func42, Tryd.ntmps42
  go_wp2_with fail
  refine (step_dead w base d s v D H.out hl).mono ?_
  rintro e w1 ⟨rfl, rfl⟩
  go_wp2_with fail
  go_ret
  exact ⟨rfl, rfl⟩

/-- Sizes and zero values, kept whole in a walk. -/
def szK_barrier_ok : Sem Nat := sizeOf 122
theorem szK_barrier_ok_keep : sizeOf 122 = szK_barrier_ok := rfl
def zvK_barrier_ok : Sem Value := zeroValue 122
theorem zvK_barrier_ok_keep : zeroValue 122 = zvK_barrier_ok := rfl
def szL_barrier_ok : Sem Nat := sizeOf 124
theorem szL_barrier_ok_keep : sizeOf 124 = szL_barrier_ok := rfl
attribute [local go_sem ↓] szK_barrier_ok_keep zvK_barrier_ok_keep szL_barrier_ok_keep in
theorem barrier_ok (w : World) (base d s : Nat) (v : Value) (D : Dsk) (h : DskA w base d s v D) (hl : D.left ≠ 0) (hs : D.steps < 1000000) :
    Calls Tryd.prog 42 #[.pointer (some ⟨d, 0, none⟩)] w fun e w' => e = .returned (.int .i64 0) ∧ DskA w' base d s (.slice none 0 0) D.barred ∧ Kp [d, s] w w' := by
  have kz' := wr_zero
  obtain ⟨k, hk⟩ : ∃ k, k = 64 := ⟨_, rfl⟩
  have ks : ∀ w, szK_barrier_ok.run Tryd.prog w = .ok k w := fun w => by rw [hk]; exact Tryd.sizeOf122 w
  obtain ⟨k', hk'⟩ : ∃ k, k = 65 := ⟨_, rfl⟩
  have ks' : ∀ w, szL_barrier_ok.run Tryd.prog w = .ok k' w := fun w => by rw [hk']; exact Tryd.sizeOf124 w
  have K := hide (And.intro hk hk')
  have hk0 : ¬ k = 0 := by omega
  have H := hide h
  have hn := h.ok.n
  have hqn := h.ok.qn
  have hq := hide h.ok.q
  clear hk hk' h
  go_enter Tryd.func42, Tryd.ntmps42
  go_wp2_with fail
  refine (step_ok w base d s v D H.out hl hs).mono ?_
  rintro e w1 ⟨rfl, h1, hkp⟩
  have HK := hide hkp
  obtain ⟨c0, c1, c2, c3, f1, f2, f3⟩ := dsk_cells h1
  obtain ⟨A, c, rfl, hA⟩ := dsk_slice h1
  have HA := hide hA
  have H1 := hide h1
  clear h1 hkp hA H hl hs
  rw [show D.stepped.queue.length = D.queue.length from rfl] at c1
  go_wp2_with fail
  go_loopw [15] (fun x wr => ∃ j : Nat, j ≤ D.queue.length ∧ x = .int .i64 (j : Int) ∧ Blk wr s 122 (sureC (putQ (D.queue.take j) D.sure) ++ D.pad) ∧ Kp [s] w1 wr) (fun x _ => D.queue.length - (intOf x).toNat)
  case atStart => exact ⟨0, Nat.zero_le _, rfl, H1.out.hs, Kp.refl _ _⟩
  case round =>
    obtain ⟨j, hj, rfl, g1, g2⟩ := hrel
    have G1 := hide g1
    have G2 := hide g2
    clear g1 g2
    by_cases hlt : j < D.queue.length
    · obtain ⟨x, hx⟩ : ∃ x, D.queue[j]? = some x := ⟨_, List.getElem?_eq_getElem hlt⟩
      obtain ⟨hxl, hxs⟩ := hq.out x (List.mem_of_getElem? hx)
      obtain ⟨g, hAg, hr⟩ := HA.out j x hx
      subst hAg
      have hgs : g ≠ s := (H1.out.nq g rfl).2
      have hgl : g < w1.heap.size := by
        obtain ⟨g', c', e, -⟩ := at_queue H1.out j x hx
        rcases Nat.lt_or_ge g w1.heap.size with hl | hg
        · exact hl
        · have := hr 0 (.int .i64 x.1) (by simp [wrC])
          simp [World.cell?, Array.getElem?_eq_none hg] at this
      have hr2 := range_kp hr (G2.out.block g hgl (by simpa using hgs))
      obtain ⟨hk, hk'⟩ := K.out
      have hwl : (wrC x).length = k' := by rw [wrC, List.length_cons, u8s_length, hxl, hk']
      have k3 := ld_mid wr g (j * k') k' _ hwl (by rw [hk']; exact hr2)
      have k4 := st_wr wr x (0, zero64) hxl (by unfold zero64; rw [List.length_replicate])
      have k5 : (wr.alloc (.cells (wrC x).toArray 124)).cell? ⟨wr.heap.size, 0, none⟩ = some (.int .i64 (x.1 : Int)) := (Blk.new wr _ _).cell 0
      have k6 := ld_mid (wr.alloc (.cells (wrC x).toArray 124)).drew wr.heap.size 1 k (u8s x.2) (by rw [u8s_length, hxl, hk]) (fun n u hu => by
        show (wr.alloc _).cell? _ = _
        rw [(Blk.new wr _ _).cell, Nat.add_comm]
        simpa [wrC] using hu)
      have hxk : (u8s x.2).length = k := by rw [u8s_length, hxl, hk]
      have c0' : (wr.alloc (.cells (wrC x).toArray 124)).cell? ⟨d, 0, none⟩ = some (.slice (some ⟨s, 0, none⟩) D.sure.length D.cap) := ((H1.out.hd.kp G2.out (by simpa using H1.out.ne)).alloc _).cell 0
      have h64 := putQ_64 (D.queue.take j) D.sure (fun y hy => (hq.out y (List.mem_of_mem_take hy)).1) H1.out.ok.b
      have hsl : (putQ (D.queue.take j) D.sure).length = D.sure.length := putQ_len _ _
      have hB := (G1.out.alloc (.cells (wrC x).toArray 124)).drew
      have k7 := st_mid (wr.alloc (.cells (wrC x).toArray 124)).drew s (x.1 * k) x.2 (there_blk hB _ _ (by rw [Array.size_append, sureC_size _ h64, u8s_length, hxl, hsl, hk]; omega))
      have hP := hide (sure_put hB h64 (by rw [hsl]; exact hxs) x.2 hxl)
      have hKs := hide (Kp.sets (gs := [s]) (g := s) (by simp) (u8s x.2) (x.1 * 64) _ (G2.out.alloc (.cells (wrC x).toArray 124)).drew)
      have hst := hide (putQ_step D.queue j D.sure x hx)
      have hKk := hide hk
      clear hk hk' hx hr hr2 hB h64 hsl hgs hgl
      go_wp2_with fail
      go_region
      all_goals
        go_wp2_with fail
        go_roundw
        case rel =>
          refine ⟨j + 1, by omega, by go_num, ?_, ?_⟩
          · rw [hst.out, hKk.out]; exact hP.out
          · rw [hKk.out]; exact hKs.out
        case measure => simp [intOf]; omega
    · have hjn : j = D.queue.length := by omega
      have HL : Hid (Blk wr s 122 (sureC (putQ D.queue D.sure) ++ D.pad)) := by
        have := G1.out
        rw [hjn, List.take_length] at this
        exact hide this
      clear hjn
      have c1' : wr.cell? ⟨d, 1, none⟩ = some (.slice A D.queue.length c) := (H1.out.hd.kp G2.out (by simpa using H1.out.ne)).cell 1
      have f1' : wr.frozen? ⟨d, 1, none⟩ = false := (H1.out.hd.kp G2.out (by simpa using H1.out.ne)).frozen 1
      go_wp2_with fail
      go_ret
      have ne := H1.out.ne
      refine ⟨rfl, ⟨?_, HL.out.far (p := ⟨d, 1, none⟩) ne.symm _, ⟨rfl, .inl ⟨rfl, rfl⟩⟩, ne, (fun g hg => by cases hg), H1.out.db, H1.out.sb, ?_⟩, ?_⟩
      · have := (H1.out.hd.kp G2.out (by simpa using ne)).set 1 (.slice none 0 0)
        rw [show D.barred.sure.length = D.sure.length from putQ_len _ _]
        exact this
      · exact { H1.out.ok with b := putQ_64 _ _ (fun y hy => (hq.out y hy).1) H1.out.ok.b, q := (fun y hy => by cases hy), n := (by rw [show D.barred.sure.length = D.sure.length from putQ_len _ _]; exact hn), qn := Nat.zero_le _ }
      · exact ((HK.out.more (by simp)).trans (G2.out.more (by simp))).set (.inl (by simp)) _
end Go.Proofs.YtlobkefacnedeaaDoor

/- append of one write to the queue. -/
namespace Go.Proofs.YtlobkefacnedeaaDoor
open Go.RowKit
set_option maxRecDepth 100000

theorem app_wr (w : World) (base : Nat) (v : Value) (n : Nat) (xs : List Value) (hown : w.ownsRow base 124 65 v n xs) (g : Nat) (x : Nat × List UInt8) (hx : x.2.length = 64) (hr : w.rangeAt g 0 (wrC x)) (hn : n < 1000000) (hbase : base ≤ w.heap.size) :
    ∃ v' w', (Builtin.append_ #[94, 94] 94 #[v, .slice (some ⟨g, 0, none⟩) 1 1]).run Tryd.prog w = .ok v' w' ∧ w'.ownsRow base 124 65 v' (n + 1) (xs ++ wrC x) ∧ w.grownBy w' v.ownBlock ∧ (v'.ownBlock = v.ownBlock ∨ v'.ownBlock = some w.heap.size) := by
  have hz : (Tryd.prog.info? 124).map (fun i => (i.zero, i.size, i.bytes)) = some (some (.agg (wrC (0, zero64)).toArray), 65, 72) := by kernel_rfl
  obtain ⟨i, hi, h1, h2, h3⟩ := info_parts hz
  have hl : (wrC x).length = 1 * 65 := by rw [wrC, List.length_cons, u8s_length, hx]
  obtain ⟨v', w', a1, a2, a3, -, a5⟩ := run_append_own_at (P := Tryd.prog) w base 94 94 124 i _ 65 72 Tryd.underlying94 hi h1 h2 h3 (by simp [Value.cells, wrC, u8s_length, zero64]) (by omega) v n xs hown ⟨g, 0, none⟩ 1 1 (wrC x) hl
    (fun j u hu => by rw [Addr.add_mid]; exact hr j u hu)
    (fun u hu => by
      simp only [wrC, u8s, List.mem_cons, List.mem_map] at hu
      rcases hu with rfl | ⟨a, _, rfl⟩ <;> rfl)
    (by simp only [maxLen]; omega) (by omega) hbase
  exact ⟨v', w', a1, a2, a3, a5⟩
end Go.Proofs.YtlobkefacnedeaaDoor

/- The walk over disk.Write. -/
namespace Go.Proofs.YtlobkefacnedeaaDoor
open Go.RowKit
set_option maxRecDepth 100000

theorem write_no (w : World) (base d s : Nat) (v : Value) (D : Dsk) (i : Int) (B : Option Addr) (n c : Nat) (h : DskA w base d s v D) (hi : ¬ (0 ≤ i ∧ i < D.sure.length) ∨ n ≠ 64) (hnl : n ≤ 9223372036854775807) :
    Calls Tryd.prog 66 #[.pointer (some ⟨d, 0, none⟩), .int .i64 i, .slice B n c] w fun e w' => e = .returned (.int .i64 22) ∧ w = w' := by
  obtain ⟨c0, c1, c2, c3, f1, f2, f3⟩ := dsk_cells h
  clear h
  by_cases h1 : i < 0
  · clear hi
    go_enter Tryd.func66, Tryd.ntmps66
    go_wp2
    go_ret
    exact ⟨rfl, rfl⟩
  · by_cases h2 : (D.sure.length : Int) ≤ i
    · clear hi
      go_enter Tryd.func66, Tryd.ntmps66
      go_wp2
      go_ret
      exact ⟨rfl, rfl⟩
    · have h3 : ¬ (n : Int) = 64 := by omega
      clear hi
      go_enter Tryd.func66, Tryd.ntmps66
      go_wp2
      go_ret
      exact ⟨rfl, rfl⟩
theorem write_dead (w : World) (base d s : Nat) (v : Value) (D : Dsk) (i : Nat) (B : Option Addr) (c : Nat) (h : DskA w base d s v D) (hi : i < D.sure.length) (hl : D.left = 0) :
    Calls Tryd.prog 66 #[.pointer (some ⟨d, 0, none⟩), .int .i64 (i : Int), .slice B 64 c] w fun e w' => e = .returned (.int .i64 102) ∧ w = w' := by
  obtain ⟨c0, c1, c2, c3, f1, f2, f3⟩ := dsk_cells h
  have H := hide h
  have hn := h.ok.n
  clear h
  go_enter Tryd.func66, Tryd.ntmps66
  go_wp2_with fail
  refine (step_dead w base d s v D H.out hl).mono ?_
  rintro e w1 ⟨rfl, rfl⟩
  go_wp2_with fail
  go_ret
  exact ⟨rfl, rfl⟩
end Go.Proofs.YtlobkefacnedeaaDoor

/- A write of the queue as it is built, and the row of one such. -/
namespace Go.Proofs.YtlobkefacnedeaaDoor
open Go.RowKit
set_option maxRecDepth 100000

theorem fold_set : ∀ (vs : List Value) (i0 o : Nat) (cs : Array Value), o + i0 + vs.length ≤ cs.size → ((vs.zipIdx i0).foldl (fun cs x => cs.setIfInBounds (o + x.2) x.1) cs).toList = cs.toList.take (o + i0) ++ vs ++ cs.toList.drop (o + i0 + vs.length)
  | [], i0, o, cs, _ => by simp
  | v :: r, i0, o, cs, h => by
    have h' : o + i0 + (r.length + 1) ≤ cs.size := h
    rw [List.zipIdx_cons, List.foldl_cons, fold_set r (i0 + 1) o _ (by simp; omega), Array.toList_setIfInBounds]
    have := setCells_list v r cs.toList (o + i0) (by simp; omega)
    simpa [Nat.add_assoc] using this
theorem built_at {P : Program} {t : TypeId} {fs : Array Field} {z : Array Value} {places : List (Nat × Nat)} (hu : P.underlying t = some (.struct fs)) (hz : (P.info? t).map (·.zero) = some (some (.agg z))) (hp : fs.toList.mapM (fun f => (P.info? f.type).map fun i => (f.offset, i.size)) = some places) (parts : List (Nat × Value)) :
    P.built t parts = Instr.fill (places.toArray[·]?) z parts := by
  unfold Program.built
  cases hi : P.info? t with
  | none => simp [hi] at hz
  | some it =>
    simp only [hi, Option.map_some, Option.some.injEq] at hz
    simp only [hu, hz, hp]
    rfl
theorem fill_step {place : Nat → Option (Nat × Nat)} {cells : Array Value} {i off : Nat} {v : Value} {rest : List (Nat × Value)} (hp : place i = some (off, v.cells.size)) (hs : off + v.cells.size ≤ cells.size) :
    Instr.fill place cells ((i, v) :: rest) = Instr.fill place (v.cells.toList.zipIdx.foldl (fun cs x => cs.setIfInBounds (off + x.2) x.1) cells) rest := by
  conv => lhs; unfold Instr.fill
  simp only [hp]
  rw [if_neg (by simp; omega), ← Array.foldl_toList, Array.toList_zipIdx]
theorem wr_built (i : Nat) (b : List UInt8) (hb : b.length = 64) : Tryd.prog.built 124 [(0, .int .i64 (i : Int)), (1, .agg (u8s b).toArray)] = some (wrC (i, b)).toArray := by
  rw [built_at (z := (wrC (0, zero64)).toArray) (places := [(0, 1), (1, 64)]) Tryd.underlying124 (by kernel_rfl) (by kernel_rfl)]
  have hl : (u8s b).length = 64 := by rw [u8s_length, hb]
  have hz : zero64.length = 64 := by unfold zero64; rw [List.length_replicate]
  have hf := fold_set (u8s b) 0 1 ((Value.int .i64 (i : Int)) :: u8s zero64).toArray (by simp [u8s_length, hz, hb])
  rw [fill_step (off := 0) (by rfl) (by simp [wrC, Value.cells])]
  rw [show (Value.int IntKind.i64 (i : Int)).cells.toList.zipIdx.foldl (fun cs x => cs.setIfInBounds (0 + x.2) x.1) (wrC (0, zero64)).toArray = ((Value.int .i64 (i : Int)) :: u8s zero64).toArray from by simp [wrC, Value.cells]]
  rw [fill_step (off := 1) (by simp [Value.cells, u8s_length, hb]) (by simp [Value.cells, u8s_length, hb, hz])]
  unfold Instr.fill
  congr 1
  apply Array.toList_inj.1
  refine hf.trans ?_
  simp [wrC, u8s_length, hz, hb]
/-- Builds, kept whole in a walk. -/
def buildK (t : TypeId) (ps : Array (Nat × Value)) : Sem Value := Instr.build t ps
theorem buildK_keep (t : TypeId) (ps : Array (Nat × Value)) : Instr.build t ps = buildK t ps := rfl
def buildSliceK (t : TypeId) (n : Nat) (ps : Array (Nat × Value)) : Sem Value := Instr.buildSlice t n ps
theorem buildSliceK_keep (t : TypeId) (n : Nat) (ps : Array (Nat × Value)) : Instr.buildSlice t n ps = buildSliceK t n ps := rfl
theorem wr_build (w : World) (i : Nat) (b : List UInt8) (hb : b.length = 64) : (buildK 124 #[(0, .int .i64 (i : Int)), (1, .agg (u8s b).toArray)]).run Tryd.prog w = .ok (.agg (wrC (i, b)).toArray) w :=
  run_build w 124 _ _ (wr_built i b hb)
theorem wr_slice (w : World) (x : Nat × List UInt8) (hx : x.2.length = 64) : (buildSliceK 94 1 #[(0, .agg (wrC x).toArray)]).run Tryd.prog w = .ok (.slice (some ⟨w.heap.size, 0, none⟩) 1 1) (w.alloc (.cells (wrC x).toArray 124)) := by
  unfold buildSliceK
  have hz : (Tryd.prog.info? 124).map (fun i => (i.zero, i.size, i.bytes)) = some (some (.agg (wrC (0, zero64)).toArray), 65, 72) := by kernel_rfl
  obtain ⟨ie, hi, h1, h2, h3⟩ := info_parts hz
  have hw : (wrC x).length = 65 := by rw [wrC, List.length_cons, u8s_length, hx]
  have hfill := Great.fill_whole (s := 65) (by omega) [Value.agg (wrC x).toArray] ((Array.range (1 * ie.size)).map ((Value.agg (wrC (0, zero64)).toArray).cells[· % (Value.agg (wrC (0, zero64)).toArray).cells.size]!)) (fun v hv => by
    rw [List.mem_singleton] at hv
    subst hv
    simp [Value.cells, hw]) (by simp [h2])
  refine run_buildSlice w 94 124 1 _ (wrC x).toArray ie _ Tryd.underlying94 hi h1 (by rw [h2]; omega) (by rw [h2]; omega) ?_
  rw [h2] at hfill ⊢
  simpa [Value.cells] using hfill
end Go.Proofs.YtlobkefacnedeaaDoor

/- The walk over disk.Write, done. -/
namespace Go.Proofs.YtlobkefacnedeaaDoor
open Go.RowKit
set_option maxRecDepth 100000

theorem blk_grown {w w' : World} {r : Option Nat} {g : Nat} {t : TypeId} {cs : Array Value} (h : Blk w g t cs) (hg : w.grownBy w' r) (hn : some g ≠ r) : Blk w' g t cs := (hg.block g h.lt hn).trans h
theorem Kp.grown {gs : List Nat} {a w w' : World} (h : Kp gs a w) {r : Option Nat} (hg : w.grownBy w' r) (hr : ∀ g, r = some g → g ∈ gs) : Kp gs a w' :=
  ⟨hg.os.trans h.os, hg.tape.trans h.tape, hg.output.trans h.output, Nat.le_trans h.size hg.size, fun i hi hn => (hg.block i (Nat.lt_of_lt_of_le hi h.size) (fun e => hn (hr i e.symm))).trans (h.block i hi hn)⟩

/-- The disk behind a write. -/
def Dsk.wrote (D : Dsk) (i : Nat) (b : List UInt8) : Dsk := { D.stepped with queue := D.queue ++ [(i, b)] }
theorem queueC_app (l : List (Nat × List UInt8)) (x : Nat × List UInt8) : queueC l ++ wrC x = queueC (l ++ [x]) := by simp [queueC]
/-- What stands when the new row is stored into the disk. -/
theorem wrote_end {w w1 w2 : World} {base d s g cap i : Nat} {v : Value} {D : Dsk} {b : List UInt8} {cs : Array Value} (H1 : DskA w1 base d s v D.stepped) (HK : Kp [d] w w1)
    (hd : Blk (w1.drew.alloc (.cells cs 124)) d 96 #[.slice (some ⟨s, 0, none⟩) D.stepped.sure.length D.stepped.cap, v, .int .i64 (D.stepped.steps : Int), .int .i64 D.stepped.left])
    (hs : Blk (w1.drew.alloc (.cells cs 124)) s 122 (sureC D.stepped.sure ++ D.stepped.pad))
    (HX : w2.ownsRow base 124 65 (.slice (some ⟨g, 0, none⟩) (D.queue.length + 1) cap) (D.queue.length + 1) (queueC D.queue ++ wrC (i, b)) ∧ (w1.drew.alloc (.cells cs 124)).grownBy w2 v.ownBlock ∧
      (v.ownBlock = some g ∨ g = (w1.drew.alloc (.cells cs 124)).heap.size) ∧ g < w2.heap.size)
    (hi : i < D.sure.length) (hb : b.length = 64) (hq : D.queue.length < 1000000) :
    DskA (w2.setCell ⟨d, 1, none⟩ (.slice (some ⟨g, 0, none⟩) (D.queue.length + 1) cap)) base d s (.slice (some ⟨g, 0, none⟩) (D.queue.length + 1) cap) (D.wrote i b) ∧
      (∀ gs, d ∈ gs → (∀ g, v.ownBlock = some g → g ∈ gs) → Kp gs w (w2.setCell ⟨d, 1, none⟩ (.slice (some ⟨g, 0, none⟩) (D.queue.length + 1) cap))) ∧
      (∀ h, (Value.slice (some ⟨g, 0, none⟩) (D.queue.length + 1) cap).ownBlock = some h → v.ownBlock = some h ∨ w.heap.size ≤ h) := by
  obtain ⟨hown, hgrow, hat, hlt⟩ := HX
  have hvd : some d ≠ v.ownBlock := fun e => (H1.nq d e.symm).1 rfl
  have hvs : some s ≠ v.ownBlock := fun e => (H1.nq s e.symm).2 rfl
  have hsz := HK.size
  have hgne : g ≠ d ∧ g ≠ s := by
    rcases hat with h | h
    · exact H1.nq g h
    · have := H1.hd.lt
      have := H1.hs.lt
      have e : (w1.drew.alloc (.cells cs 124)).heap.size = w1.heap.size + 1 := by simp
      rw [e] at h
      omega
  refine ⟨⟨?_, (blk_grown hs hgrow hvs).far (p := ⟨d, 1, none⟩) H1.ne.symm _, ?_, H1.ne, ?_, H1.db, H1.sb, ?_⟩, ?_, ?_⟩
  · have := (blk_grown hd hgrow hvd).set 1 (.slice (some ⟨g, 0, none⟩) (D.queue.length + 1) cap)
    exact this
  · show (World.setCell _ _ _).ownsRow base _ 65 _ (D.queue ++ [(i, b)]).length (queueC (D.queue ++ [(i, b)]))
    rw [show (D.queue ++ [(i, b)]).length = D.queue.length + 1 by simp, ← queueC_app]
    refine ⟨hown.1, ?_⟩
    rcases hown.2 with h0 | ⟨g', cap', cur, h2, h3, h4, h5⟩
    · exact .inl h0
    · refine .inr ⟨g', cap', cur, h2, h3, ?_, h5⟩
      injection h2 with e1 e2 e3
      injection e1 with e1
      injection e1 with e1
      refine (Below.heap_setCell _ ⟨d, 1, none⟩ _ g' ?_).trans h4
      show g' ≠ d
      rw [← e1]; exact hgne.1
  · intro h hh
    simp only [Value.ownBlock, Option.some.injEq] at hh
    rw [← hh]; exact hgne
  · refine { H1.ok with q := fun x hx => ?_, qn := ?_ }
    · rcases List.mem_append.1 hx with hx | hx
      · exact H1.ok.q x hx
      · rw [List.mem_singleton] at hx
        subst hx
        exact ⟨hb, hi⟩
    · show (D.queue ++ [(i, b)]).length ≤ 1000000
      simp; omega
  · intro gs h1 h2
    exact ((((HK.more (gs' := gs) (by simpa using h1)).drew).alloc _).grown hgrow h2).set (.inl h1) _
  · intro h hh
    simp only [Value.ownBlock, Option.some.injEq] at hh
    subst hh
    rcases hat with h | h
    · exact .inl h
    · right
      rw [h]
      simp
      omega

/-- Sizes and zero values, kept whole in a walk. -/
def szK_write_ok : Sem Nat := sizeOf 122
theorem szK_write_ok_keep : sizeOf 122 = szK_write_ok := rfl
def zvK_write_ok : Sem Value := zeroValue 122
theorem zvK_write_ok_keep : zeroValue 122 = zvK_write_ok := rfl
def szL_write_ok : Sem Nat := sizeOf 124
theorem szL_write_ok_keep : sizeOf 124 = szL_write_ok := rfl
attribute [local go_sem ↓] szK_write_ok_keep zvK_write_ok_keep szL_write_ok_keep in
attribute [local go_sem ↓] buildK_keep buildSliceK_keep in
theorem write_ok (w : World) (base d s : Nat) (v : Value) (D : Dsk) (i : Nat) (ad : Addr) (c : Nat) (b : List UInt8) (h : DskA w base d s v D) (hi : i < D.sure.length) (hl : D.left ≠ 0) (hs : D.steps < 1000000) (hq : D.queue.length < 1000000)
    (hb : b.length = 64) (hc : 64 ≤ c) (hsrc : ∀ w', Kp [d] w w' → ∀ j u, (u8s b)[j]? = some u → w'.cell? (ad.add j) = some u) :
    Calls Tryd.prog 66 #[.pointer (some ⟨d, 0, none⟩), .int .i64 (i : Int), .slice (some ad) 64 c] w fun e w' => e = .returned (.int .i64 0) ∧ ∃ v', DskA w' base d s v' (D.wrote i b) ∧
      (∀ gs, d ∈ gs → (∀ g, v.ownBlock = some g → g ∈ gs) → Kp gs w w') ∧ (∀ g, v'.ownBlock = some g → v.ownBlock = some g ∨ w.heap.size ≤ g) := by
  obtain ⟨c0, c1, c2, c3, f1, f2, f3⟩ := dsk_cells h
  obtain ⟨k, hk⟩ : ∃ k, k = 64 := ⟨_, rfl⟩
  have ks : ∀ w, szK_write_ok.run Tryd.prog w = .ok k w := fun w => by rw [hk]; exact Tryd.sizeOf122 w
  obtain ⟨k', hk'⟩ : ∃ k, k = 65 := ⟨_, rfl⟩
  have ks' : ∀ w, szL_write_ok.run Tryd.prog w = .ok k' w := fun w => by rw [hk']; exact Tryd.sizeOf124 w
  have hbk : (u8s b).length = k := by rw [u8s_length, hb, hk]
  have hk0 : ¬ k = 0 := by omega
  have K := hide (And.intro hk hk')
  have H := hide h
  have hn := h.ok.n
  clear h hk hk'
  go_enter Tryd.func66, Tryd.ntmps66
  go_wp2_with fail
  refine (step_ok w base d s v D H.out hl hs).mono ?_
  rintro e w1 ⟨rfl, h1, hkp⟩
  obtain ⟨d0, d1, d2, d3, e1, e2, e3⟩ := dsk_cells h1
  have kl : (loadCellsFrom ad 0 k #[]).run Tryd.prog w1.drew = .ok (u8s b).toArray w1.drew := by
    have := run_loadCells_list (P := Tryd.prog) w1.drew ad (u8s b) (fun j u hu => hsrc _ hkp.drew j u hu)
    rw [hbk] at this
    simpa [loadCells] using this
  have ka := run_arrayAt (P := Tryd.prog) (w := w1.drew) 122 _ _ (some ad) 64 c Tryd.underlying122 (Nat.le_refl _)
  have kb := wr_build w1.drew i b hb
  have kc := wr_slice w1.drew (i, b) hb
  -- the world in which the append comes up
  have d1A : (w1.drew.alloc (.cells (wrC (i, b)).toArray 124)).cell? ⟨d, 1, none⟩ = some v := (h1.hd.drew.alloc _).cell 1
  have d1B : (w1.alloc (.cells (wrC (i, b)).toArray 124)).cell? ⟨d, 1, none⟩ = some v := (h1.hd.alloc _).cell 1
  have hdA := hide (h1.hd.drew.alloc (.cells (wrC (i, b)).toArray 124))
  have hsA := hide (h1.hs.drew.alloc (.cells (wrC (i, b)).toArray 124))
  have hz : (Tryd.prog.info? 124).map (fun i => (i.zero, i.size, i.bytes)) = some (some (.agg (wrC (0, zero64)).toArray), 65, 72) := by kernel_rfl
  obtain ⟨ie, hie, z1, z2, z3⟩ := info_parts hz
  have hown : (w1.drew.alloc (.cells (wrC (i, b)).toArray 124)).ownsRow base 124 65 v D.queue.length (queueC D.queue) := by
    refine ⟨h1.hq.1, ?_⟩
    rcases h1.hq.2 with h0 | ⟨g, cap, cur, h2, h3, h4, h5⟩
    · exact .inl h0
    · exact .inr ⟨g, cap, cur, h2, h3, Blk.alloc (Blk.drew h4) _, h5⟩
  have hsz1 := hkp.size
  have hbase : base ≤ (w1.drew.alloc (.cells (wrC (i, b)).toArray 124)).heap.size := by
    have := h1.db
    have := h1.hd.lt
    simp; omega
  have hnews := World.news_of_block (heap_alloc_new w1.drew (.cells (wrC (i, b)).toArray 124))
  have hones : ∀ u ∈ (wrC (i, b)).toArray.toList, u.oneCell' = true := fun u hu => by
    simp only [wrC, u8s, List.mem_cons, List.mem_map] at hu
    rcases hu with rfl | ⟨a, _, rfl⟩ <;> rfl
  have hlw : (wrC (i, b)).toArray.toList.length = 1 * 65 := by simp [wrC, u8s_length, hb]
  have hzc : (Value.agg (wrC (0, zero64)).toArray).cells.size = 65 := by simp [Value.cells, wrC, u8s_length, zero64]
  have hvd : some d ≠ v.ownBlock := fun e => (h1.nq d e.symm).1 rfl
  have hdlt := hdA.out.lt
  have HE := hide (And.intro hown (And.intro hnews (And.intro hones (And.intro hlw (And.intro hie (And.intro z1 (And.intro z2 (And.intro z3 (And.intro hzc (And.intro hbase (And.intro hvd hdlt)))))))))))
  have H1 := hide h1
  have HK := hide hkp
  clear h1 hkp hsrc H c0 c1 c2 c3 f1 f2 f3 hz hie z1 z2 z3 hown hbase hnews hones hlw hzc hvd hdlt hsz1
  go_wp2_with fail
  go_region_law (
    (obtain ⟨hown, hnews, hones, hlw, hie, z1, z2, z3, hzc, hbase, hvd, hdlt⟩ := HE.out
     refine step_append_lies _ (by rfl) _ _ _ (by rfl) base 124 ie _ 65 72 Tryd.underlying94 hie z1 z2 z3 hzc (by decide) v D.queue.length _ (by rfl) hown _ 1 1 _ (by rfl) hlw hnews hones (by decide) (by simp only [maxLen]; omega) (by omega) hbase _ rfl ?_
     intro g cap w2 hown2 hgrow hat hlt2
     have d12 := (blk_grown hdA.out hgrow hvd).cell 1
     have f12 := (blk_grown hdA.out hgrow hvd).frozen 1
     have HX := hide (And.intro hown2 (And.intro hgrow (And.intro hat hlt2)))
     clear hown hnews hones hlw hie z1 z2 z3 hzc hbase hvd hdlt hown2 hgrow hat hlt2))
  all_goals
    go_wp2_with fail
    go_ret
    have hend := wrote_end H1.out HK.out hdA.out hsA.out HX.out hi hb hq
    exact ⟨rfl, _, hend⟩
end Go.Proofs.YtlobkefacnedeaaDoor

/- The walk over Bytes: a block's bytes, by going round. -/
namespace Go.Proofs.YtlobkefacnedeaaDoor
open Go.RowKit
set_option maxRecDepth 100000

/-- One of them. -/
def rb (l : List UInt8) (i : Nat) : UInt8 := if l = [] then 0 else l.getD (i % l.length) 0
/-- The first j of them, zeros behind. -/
def roundJ (l : List UInt8) (j : Nat) : List UInt8 := (List.range 64).map fun i => if i < j then rb l i else 0
def round64 (l : List UInt8) : List UInt8 := (List.range 64).map (rb l)
theorem round64_len (l : List UInt8) : (round64 l).length = 64 := by simp [round64]
theorem roundJ_len (l : List UInt8) (j : Nat) : (roundJ l j).length = 64 := by simp [roundJ]
theorem roundJ_zero (l : List UInt8) : roundJ l 0 = zero64 := by
  unfold roundJ zero64
  apply List.ext_getElem
  · simp
  · intro i h1 h2; rw [List.getElem_replicate]; simp
theorem roundJ_all (l : List UInt8) : roundJ l 64 = round64 l := by
  unfold roundJ round64
  apply List.ext_getElem
  · simp
  · intro i h1 h2
    have : i < 64 := by simpa using h2
    simp [this]
theorem roundJ_set (l : List UInt8) (j : Nat) (hj : j < 64) (x : UInt8) (hx : x = rb l j) : (roundJ l j).set j x = roundJ l (j + 1) := by
  subst hx
  apply List.ext_getElem
  · simp [roundJ]
  · intro i h1 h2
    rw [List.getElem_set]
    by_cases h : j = i
    · subst h; simp [roundJ]
    · have : (i < j + 1) ↔ (i < j) := by omega
      simp [roundJ, h, this]
theorem u8s_set (l : List UInt8) (j : Nat) (x : UInt8) : (u8s l).toArray.setIfInBounds j (.int .u8 (x.toNat : Int)) = (u8s (l.set j x)).toArray := by simp [u8s, List.map_set]
theorem mk_64 (w : World) : (Instr.makeSlice 26 (.int .i64 64) (.int .i64 64)).run Tryd.prog w = .ok (.slice (some ⟨w.heap.size, 0, none⟩) 64 64) (w.alloc (.cells (u8s zero64).toArray 5)) := by
  have := run_mks (P := Tryd.prog) (t := 26) (k := 1) (bytes := 1) (z := .int .u8 0) Tryd.underlying26 (by kernel_rfl) .i64 .i64 64 (by omega) (by omega) w
  rw [show madeCells (Value.int .u8 0).cells (64 * 1) = (u8s zero64).toArray by kernel_rfl] at this
  exact this

set_option maxRecDepth 100000 in
theorem bytes_any (w : World) (B : Nat) (A : Option Addr) (n c : Nat) (l : List UInt8) (h : By w B A n l) (hB : B ≤ w.heap.size) (hn : n ≤ 9223372036854775807) :
    Calls Tryd.prog 36 #[.slice A n c] w fun e w' => e = .returned (.slice (some ⟨w.heap.size, 0, none⟩) 64 64) ∧ Blk w' w.heap.size 5 (u8s (round64 l)).toArray ∧ Below w.heap.size w w' := by
  have km := mk_64 w
  have H := hide h
  have hl := h.length
  have HL := hide hl
  clear hl h
  go_enter Tryd.func36, Tryd.ntmps36
  go_wp2_with fail
  go_loopw [8] (fun x wr => ∃ j : Nat, j ≤ 64 ∧ x = .int .i64 (j : Int) ∧ Blk wr w.heap.size 5 (u8s (roundJ l j)).toArray ∧ Below w.heap.size w wr) (fun x _ => 64 - (intOf x).toNat)
  case atStart => exact ⟨0, Nat.zero_le _, rfl, by rw [roundJ_zero]; exact Blk.new w _ _, (Below.refl _ _).alloc (Nat.le_refl _) _⟩
  case round =>
    obtain ⟨j, hj, rfl, h1, h2⟩ := hrel
    have H1 := hide h1
    have H2 := hide h2
    clear h1 h2
    by_cases hlt : j < 64
    · by_cases hn0 : n = 0
      · subst hn0
        have hl0 : l = [] := List.eq_nil_of_length_eq_zero HL.out
        have hr : roundJ l (j + 1) = roundJ l j := by
          subst hl0
          simp [roundJ, rb]
        have hr := hide hr
        go_wp2_with fail
        go_roundw
        case rel => exact ⟨j + 1, by omega, by go_num, by rw [hr.out]; exact H1.out, H2.out⟩
        case measure => simp [intOf]; omega
      · have hm : j % n < n := Nat.mod_lt _ (by omega)
        obtain ⟨hml, ad, hA, hc⟩ := By.get ((H.out).below (H2.out.mono hB)) hm
        have he : rb l j = l[j % n] := by
          have h1 := HL.out
          have h2 : l ≠ [] := by intro e; subst e; simp at h1; omega
          unfold rb
          rw [if_neg h2, h1, List.getD_eq_getElem?_getD, List.getElem?_eq_getElem hml]; rfl
        have hst := hide (roundJ_set l j hlt l[j % n] he.symm)
        have hrem : (j : Int).tmod (n : Int) = ((j % n : Nat) : Int) := by
          rw [Int.tmod_eq_emod_of_nonneg (by omega)]; simp
        have hw : IntKind.i64.wrap ((j % n : Nat) : Int) = ((j % n : Nat) : Int) := by rw [IntKind.wrap_i64]; omega
        have hrem0 : ¬ ((n : Int) = 0) := by omega
        have hF := hide (H1.out.frozen j)
        have hf := H1.out.frozen j
        have hcj : (wr.cell? ⟨w.heap.size, j, none⟩).isSome = true := by
          rw [H1.out.cell, Array.getElem?_eq_getElem (by simp [u8s_length, roundJ_len]; exact hlt)]; rfl
        obtain ⟨u0, hu0⟩ := Option.isSome_iff_exists.1 hcj
        subst hA
        generalize hgm : j % n = m at *
        clear he hcj
        go_wp2_with fail
        go_roundw
        case rel =>
          refine ⟨j + 1, by omega, by go_num, ?_, H2.out.setCell (Nat.le_refl _) _⟩
          rw [← hst.out, ← u8s_set]
          exact H1.out.set j _
        case measure => simp [intOf]; omega
    · have hj64 : j = 64 := by omega
      have HE : Hid (Blk wr w.heap.size 5 (u8s (round64 l)).toArray) := by
        have := H1.out
        rw [hj64, roundJ_all] at this
        exact hide this
      clear hj64
      go_wp2_with fail
      go_ret
      exact ⟨rfl, HE.out, H2.out⟩
end Go.Proofs.YtlobkefacnedeaaDoor

/- The walk over disk.Queue: the blocks of its writes. -/
namespace Go.Proofs.YtlobkefacnedeaaDoor
open Go.RowKit
set_option maxRecDepth 100000

/-- Numbers of blocks as cells. -/
def atC (l : List Nat) : List Value := l.map fun (n : Nat) => Value.int .i64 (n : Int)
theorem atC_app (l : List Nat) (n : Nat) : atC l ++ [.int .i64 (n : Int)] = atC (l ++ [n]) := by simp [atC]
theorem etyI : Ety Tryd.prog 23 3 (.int .i64 0) 8 := Ety.mk' Tryd.underlying23 (by kernel_rfl) (by rfl) (by decide)
theorem in_slice (w : World) (n : Nat) : (Instr.buildSlice 23 1 #[(0, .int .i64 (n : Int))]).run Tryd.prog w = .ok (.slice (some ⟨w.heap.size, 0, none⟩) 1 1) (w.alloc (.cells #[.int .i64 (n : Int)] 3)) := by
  have hz : (Tryd.prog.info? 3).map (fun i => (i.zero, i.size, i.bytes)) = some (some (.int .i64 0), 1, 8) := by kernel_rfl
  obtain ⟨ie, hi, h1, h2, h3⟩ := info_parts hz
  have hfill := Great.fill_whole (s := 1) (by omega) [Value.int .i64 (n : Int)] ((Array.range (1 * ie.size)).map ((Value.int .i64 0).cells[· % (Value.int .i64 0).cells.size]!)) (fun v hv => by
    rw [List.mem_singleton] at hv
    subst hv
    simp [Value.cells]) (by simp [h2])
  refine run_buildSlice w 23 3 1 _ #[.int .i64 (n : Int)] ie _ Tryd.underlying23 hi h1 (by rw [h2]; omega) (by rw [h2]; omega) ?_
  rw [h2] at hfill ⊢
  simpa [Value.cells] using hfill

theorem bel_grow {B : Nat} {a w w' : World} (h : Below B a w) {r : Option Nat} (hg : w.grownBy w' r) (hr : ∀ g, r = some g → B ≤ g) (hB : B ≤ w.heap.size := by simp) : Below B a w' :=
  ⟨hg.os.trans h.os, hg.tape.trans h.tape, hg.output.trans h.output, Nat.le_trans h.size hg.size, fun i hi => (hg.block i (Nat.lt_of_lt_of_le hi hB) (fun e => by have := hr i e.symm; omega)).trans (h.block i hi)⟩
/-- Sizes and zero values, kept whole in a walk. -/
def szK_queue_any : Sem Nat := sizeOf 122
theorem szK_queue_any_keep : sizeOf 122 = szK_queue_any := rfl
def zvK_queue_any : Sem Value := zeroValue 122
theorem zvK_queue_any_keep : zeroValue 122 = zvK_queue_any := rfl
def szL_queue_any : Sem Nat := sizeOf 124
theorem szL_queue_any_keep : sizeOf 124 = szL_queue_any := rfl
attribute [local go_sem ↓] szK_queue_any_keep zvK_queue_any_keep szL_queue_any_keep in
theorem queue_any (w : World) (base d s : Nat) (v : Value) (D : Dsk) (h : DskA w base d s v D) :
    Calls Tryd.prog 48 #[.pointer (some ⟨d, 0, none⟩)] w fun e w' => ∃ A c, e = .returned (.slice A D.queue.length c) ∧ w'.ownsRow w.heap.size 3 1 (.slice A D.queue.length c) D.queue.length (atC (D.queue.map (·.1))) ∧ Below w.heap.size w w' := by
  obtain ⟨c0, c1, c2, c3, f1, f2, f3⟩ := dsk_cells h
  have kz' := wr_zero
  obtain ⟨k', hk'⟩ : ∃ k, k = 65 := ⟨_, rfl⟩
  have ks' : ∀ w, szL_queue_any.run Tryd.prog w = .ok k' w := fun w => by rw [hk']; exact Tryd.sizeOf124 w
  have K := hide hk'
  have H := hide h
  have hqn := h.ok.qn
  have hq := hide h.ok.q
  obtain ⟨A, c, rfl, hA⟩ := dsk_slice h
  have HA := hide hA
  clear hk' h hA
  go_enter Tryd.func48, Tryd.ntmps48
  go_wp2_with fail
  go_loopw [3, 11] (fun x y wr => ∃ j A' c', j ≤ D.queue.length ∧ x = .slice A' j c' ∧ y = .int .i64 (j : Int) ∧ wr.ownsRow w.heap.size 3 1 (.slice A' j c') j (atC ((D.queue.map (·.1)).take j)) ∧ Below w.heap.size w wr) (fun _ y _ => D.queue.length - (intOf y).toNat)
  case atStart => exact ⟨0, none, 0, Nat.zero_le _, rfl, rfl, by simpa [atC] using World.ownsRow_nil w w.heap.size 3 1, Below.refl _ _⟩
  case round =>
    obtain ⟨j, A', c', hj, rfl, rfl, h1, h2⟩ := hrel
    have H1 := hide h1
    have H2 := hide h2
    clear h1 h2
    by_cases hlt : j < D.queue.length
    · obtain ⟨x, hx⟩ : ∃ x, D.queue[j]? = some x := ⟨_, List.getElem?_eq_getElem hlt⟩
      have hxl := (hq.out x (List.mem_of_getElem? hx)).1
      have Dr := dsk_kp H.out (Kp.of_below (gs := []) H2.out) (by simp) (by simp) (by simp)
      obtain ⟨g, hAg, -⟩ := HA.out j x hx
      subst hAg
      obtain ⟨g', c'', e, hr⟩ := at_queue Dr j x hx
      injection e with e1
      injection e1 with e1
      injection e1 with e1
      subst e1
      have hk' := K.out
      have hwl : (wrC x).length = k' := by rw [wrC, List.length_cons, u8s_length, hxl, hk']
      have k3 := ld_mid wr g (j * k') k' _ hwl (by rw [hk']; exact hr)
      have k4 := st_wr wr x (0, zero64) hxl (by unfold zero64; rw [List.length_replicate])
      have k5 : (wr.alloc (.cells (wrC x).toArray 124)).cell? ⟨wr.heap.size, 0, none⟩ = some (.int .i64 (x.1 : Int)) := (Blk.new wr _ _).cell 0
      have k6 := in_slice (wr.alloc (.cells (wrC x).toArray 124)) x.1
      have hst : Hid ((D.queue.map (·.1)).take (j + 1) = (D.queue.map (·.1)).take j ++ [x.1]) := by
        rw [List.take_add_one, List.getElem?_map, hx]; simp [Hid]
      have hb3 := hide ((H2.out.alloc H2.out.size (.cells (wrC x).toArray 124)).alloc (Nat.le_trans H2.out.size (by simp)) (.cells #[.int .i64 (x.1 : Int)] 3))
      clear hk' Dr hr hx
      have hownW := hide (own_keep H1.out (((Below.refl _ _).alloc (Nat.le_refl _) (.cells (wrC x).toArray 124)).alloc (by simp) (.cells #[.int .i64 (x.1 : Int)] 3)))
      have hnew : Hid (Sl ((wr.alloc (.cells (wrC x).toArray 124)).alloc (.cells #[.int .i64 (x.1 : Int)] 3)) (wr.heap.size + 2) (some ⟨wr.heap.size + 1, 0, none⟩) 1 [.int .i64 (x.1 : Int)]) := by
        have := Blk.new (wr.alloc (.cells (wrC x).toArray 124)) 3 #[.int .i64 (x.1 : Int)]
        have e : (wr.alloc (.cells (wrC x).toArray 124)).heap.size = wr.heap.size + 1 := by simp
        rw [e] at this
        refine hide ⟨rfl, fun i u hu => ⟨_, rfl, by simp, ?_⟩⟩
        rw [Addr.add_mid, Nat.zero_add, this.cell]
        simpa using hu
      have hsz := hide H2.out.size
      go_wp2_with (
        at_builtin
        refine wpList_app _ rfl (.tmp 15) (.tmp 18) _ rfl etyI w.heap.size (.slice A' j c') j _ rfl hownW.out (wr.heap.size + 2) (some ⟨wr.heap.size + 1, 0, none⟩) 1 1 [.int .i64 (x.1 : Int)] rfl
          hnew.out (by intro u hu; rw [List.mem_singleton] at hu; rw [hu]; rfl) (by omega) (Nat.le_trans hsz.out (by simp; omega)) ?_
        intro A2 c2 w2 hown2 hg2 _
        have Hb2 := hide (bel_grow hb3.out hg2 (fun g hg => (hownW.out.lt g hg).1) (Nat.le_trans hsz.out (by simp; omega)))
        rw [atC_app, ← hst.out] at hown2
        have Hown2 := hide hown2
        clear hg2 hown2)
      go_roundw
      case rel => exact ⟨_, _, _, ⟨j + 1, by omega, A2, c2, rfl, by go_num, Hown2.out, Hb2.out⟩, rfl, rfl, rfl⟩
      case measure => simp [intOf]; omega
    · have hjn : j = D.queue.length := by omega
      have HL : Hid (wr.ownsRow w.heap.size 3 1 (.slice A' D.queue.length c') D.queue.length (atC (D.queue.map (·.1)))) := by
        have := H1.out
        rw [hjn, List.take_of_length_le (by simp)] at this
        exact hide this
      go_wp2_with fail
      go_ret
      rw [hjn]
      exact ⟨A', c', rfl, HL.out, H2.out⟩
end Go.Proofs.YtlobkefacnedeaaDoor
