/- The walk over marllaw13's awake: a fixed fact. -/
import Derived.Test.YtopjkpopdffkeaaDoorPkLit
set_option linter.unusedVariables false
set_option linter.unusedSimpArgs false
namespace Go.Proofs.YtopjkpopdffkeaaDoor
open Go.RowKit
attribute [local go_sem ↓] Go.wp_at_zero Go.wp_at_succ

def aw13F : List FI := [⟨5, 0, [0, 1, 2]⟩]
def aw13O : List PcP := [⟨false, [⟨5, 0, [0, 1]⟩], []⟩, ⟨true, [⟨5, 0, [2]⟩], [5]⟩]
theorem aw_13 : goS (actsA aw13F [5]) (startS 4 16) = some ⟨aw13O, 16, 16, 0⟩ := by kernel_rfl
set_option maxRecDepth 100000 in
set_option maxHeartbeats 2000000 in
theorem awake13 (w : World) : Calls Tryd.prog 4 #[] w fun e w' => e = .returned (.bool true) ∧ Below w.heap.size w w' := by
  have l3 := fun w x y z => int_lit3 w x y z
  have l1 := fun w x => int_lit1 w x
  have lf := fun w xs h => one_file w xs h
  go_enter Tryd.func4, Tryd.ntmps4
  go_wp2_with fail
  obtain ⟨w3, hw3⟩ : ∃ x, x = (((w.alloc (.cells #[.int .i64 0, .int .i64 1, .int .i64 2] 3)).alloc (.cells #[.int .i64 5, .int .i64 0, .slice (some ⟨w.heap.size, 0, none⟩) 3 3] 28)).alloc (.cells #[.int .i64 5] 3)) := ⟨_, rfl⟩
  have k1 : Blk w3 w.heap.size 3 #[.int .i64 0, .int .i64 1, .int .i64 2] := by rw [hw3]; exact ((Blk.new _ _ _).alloc _).alloc _
  have k2 : Blk w3 (w.heap.size + 1) 28 #[.int .i64 5, .int .i64 0, .slice (some ⟨w.heap.size, 0, none⟩) 3 3] := by
    rw [hw3]
    have := Blk.new (w.alloc (.cells #[.int .i64 0, .int .i64 1, .int .i64 2] 3)) 28 #[.int .i64 5, .int .i64 0, .slice (some ⟨w.heap.size, 0, none⟩) 3 3]
    rw [World.size_alloc] at this
    exact this.alloc _
  have k3 : Blk w3 (w.heap.size + 1 + 1) 3 #[.int .i64 5] := by
    rw [hw3]
    have := Blk.new ((w.alloc (.cells #[.int .i64 0, .int .i64 1, .int .i64 2] 3)).alloc (.cells #[.int .i64 5, .int .i64 0, .slice (some ⟨w.heap.size, 0, none⟩) 3 3] 28)) 3 #[.int .i64 5]
    rw [World.size_alloc, World.size_alloc] at this
    exact this
  have hB : Below w.heap.size w w3 := by rw [hw3]; exact (((Below.refl _ _).alloc (Nat.le_refl _) _).alloc (by simp) _).alloc (by simp; omega) _
  have hf : FisAt 0 0 w3 (some ⟨w.heap.size + 1, 0, none⟩) 1 aw13F := fis_one k2 (rw_of_blk (xs := intC [0, 1, 2]) k1 rfl)
  have hi : IntsAt 0 0 w3 (some ⟨w.heap.size + 1 + 1, 0, none⟩) 1 [5] := rw_of_blk (xs := intC [5]) k3 rfl
  have C := plan_good _ _ 1 1 1 1 0 0 0 0 aw13F [5] 4 16 w3 hf hi (Nat.zero_le _) (Nat.zero_le _) (by decide) (by decide) (by decide) (by decide)
  rw [aw_13] at C
  rw [← hw3]
  have HB := hide hB
  clear hw3 k1 k2 k3 hB hf hi l3 l1 lf
  refine C.mono ?_
  rintro e w4 ⟨hb, B, d, rfl, hO⟩
  have B4 := hide (HB.out.trans (hb.mono HB.out.size))
  clear C hb HB
  obtain ⟨g, p0, A1, c1, A2, c2, hA, hg0, ⟨csg, hgb⟩, hp0, hf0, hi0, q0, q1, q2⟩ := hO.at (j := 0) (by decide)
  obtain ⟨g', p1, A1', c1', A2', c2', hA', hg0', ⟨csg', hgb'⟩, hp1, hf1, hi1, r0, r1, r2⟩ := hO.at (j := 1) (by decide)
  subst hA
  injection hA' with hA'
  injection hA' with hA' _
  subst hA'
  have e0 : p0 = ⟨false, [⟨5, 0, [0, 1]⟩], []⟩ := (Option.some.inj hp0).symm
  have e1 : p1 = ⟨true, [⟨5, 0, [2]⟩], [5]⟩ := (Option.some.inj hp1).symm
  subst e0 e1
  obtain ⟨b, off, f, A3, c3, hA3, hFr, hfi, hIa, s0, s1, s2⟩ := hf0.at (j := 0) (by decide)
  have e2 : f = ⟨5, 0, [0, 1]⟩ := (Option.some.inj hfi).symm
  subst e2 hA3
  have HF1 := hide hf1
  clear hO hgb hgb' hp0 hp1 hfi hIa hFr hf0 hi0 hi1 hf1 hg0 hg0'
  dsimp only [List.length] at *
  simp only [Nat.zero_mul, Nat.one_mul, Nat.zero_add, Nat.add_zero, Nat.reduceAdd] at q0 q1 q2 r0 r1 r2 s0 s1 s2
  go_wp2_with fail
  have C2 := pblocks_any true A1' A2' 1 c1' 1 c2' _ _ [⟨5, 0, [2]⟩] w4 HF1.out (by decide) (by decide) (by decide)
  unfold pcC at C2
  refine C2.mono ?_
  rintro e w5 ⟨rfl, hb⟩
  have B5 := hide (B4.out.trans (hb.mono B4.out.size))
  clear hb C2
  go_wp2_with fail
  go_ret
  exact ⟨rfl, B5.out⟩
end Go.Proofs.YtopjkpopdffkeaaDoor
